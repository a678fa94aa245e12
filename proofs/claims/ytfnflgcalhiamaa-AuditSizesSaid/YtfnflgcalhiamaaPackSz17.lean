/- Texts of this claim, joined: Sizes38. -/
import Derived.Test.YtfnflgcalhiamaaPackSz16
/- hachurelaw38.AuditSizes: the walk. -/
set_option linter.unusedVariables false
set_option linter.unusedSimpArgs false
namespace Go.Proofs.Ytfnflgcalhiamaa
open Go.RowKit

theorem fenB_of {w h : Nat} {u : Nat → Int} (hu : ∀ j, j < w * h → -2147483648 ≤ u j ∧ u j ≤ 2147483647) : FenB (fun x y => u ((y * (w : Int) + x).toNat)) w h := by
  intro x y a1 a2 a3 a4
  obtain ⟨X, rfl⟩ : ∃ X : Nat, x = X := ⟨x.toNat, by omega⟩
  obtain ⟨Y, rfl⟩ : ∃ Y : Nat, y = Y := ⟨y.toNat, by omega⟩
  have e : ((Y : Int) * (w : Int) + (X : Int)).toNat = Y * w + X := by
    have : (Y : Int) * (w : Int) + (X : Int) = ((Y * w + X : Nat) : Int) := by push_cast; rfl
    rw [this]; exact Int.toNat_natCast _
  have hm := Nat.mul_le_mul_right w (show Y + 1 ≤ h by omega)
  rw [Nat.add_mul, Nat.mul_comm h w] at hm
  have := hu (Y * w + X) (by omega)
  show _ ≤ u _ ∧ u _ ≤ _
  rw [e]
  omega
/-- One of them isn't there. -/
theorem ck_nil1 (p b : Nat) (W : World) : Calls Try.prog 28 #[.pointer none, .pointer (some ⟨p, 0, none⟩), .pointer (some ⟨b, 0, none⟩)] W fun e W' => e = .returned (.int .i64 1) ∧ Below W.heap.size W W' := audit_check_nil none (some p) (some b) W (.inl rfl)
theorem ck_nil2 (g b : Nat) (W : World) : Calls Try.prog 28 #[.pointer (some ⟨g, 0, none⟩), .pointer none, .pointer (some ⟨b, 0, none⟩)] W fun e W' => e = .returned (.int .i64 1) ∧ Below W.heap.size W W' := audit_check_nil (some g) none (some b) W (.inr (.inl rfl))
theorem ck_nil3 (g p : Nat) (W : World) : Calls Try.prog 28 #[.pointer (some ⟨g, 0, none⟩), .pointer (some ⟨p, 0, none⟩), .pointer none] W fun e W' => e = .returned (.int .i64 1) ∧ Below W.heap.size W W' := audit_check_nil (some g) (some p) none W (.inr (.inr rfl))

set_option maxHeartbeats 4000000 in
set_option maxRecDepth 100000 in
theorem sizes38_any (w h x y : Int) (v v2 : Value) (n n2 : Nat) (u u2 : Nat → Int) (W : World) (hv : ArgAt W v n u) (hv2 : ArgAt W v2 n2 u2) :
    Calls Try.prog 4 #[.int .i64 w, .int .i64 h, v, .int .i64 x, .int .i64 y, v2] W fun e W' => e = .returned (.bool true) ∧ Below W.heap.size W W' := by
  go_enter Try.func4, Try.ntmps4
  go_wp2_with fail
  refine (awake38_ok _).mono ?_
  rintro e w2 ⟨rfl, hb⟩
  have hB := hb
  clear hb
  go_wp2_with fail
  refine (land_any w h 1000 v n u w2 (hv.below hB)).mono ?_
  rintro e w3 ⟨hb, ⟨hland, rfl⟩ | ⟨hno, rfl⟩⟩
  rotate_left
  · replace hB := below_next hB hb
    obtain ⟨o2, cap2, rfl, hn3, hn4⟩ := hv2
    have hv2 : ArgAt W (.slice o2 n2 cap2) n2 u2 := ⟨o2, cap2, rfl, hn3, hn4⟩
    go_wp2_with fail
    refine (land_any x y 1000 (.slice o2 n2 cap2) n2 u2 _ (hv2.below (below_alloc hB _))).mono ?_
    rintro e w4 ⟨hb4, ⟨_, rfl⟩ | ⟨_, rfl⟩⟩
    · go_wp2_with fail
      go_ret
      exact ⟨rfl, below_alloc (below_next (below_alloc hB _) hb4) _⟩
    · go_wp2_with fail
      go_ret
      exact ⟨rfl, below_alloc (below_next (below_alloc hB _) hb4) _⟩
  replace hB := below_next hB hb
  obtain ⟨o, cap0, rfl, hn1, hn2⟩ := hv.below hB
  obtain ⟨c1, c2, c3, c4, c5, c6, c7⟩ := hland
  have hm1 := Int.mul_le_mul c1 c2 (by omega) (by omega)
  obtain ⟨ad, rfl, hr⟩ := hn2 (by omega)
  obtain ⟨wn, rfl⟩ : ∃ wn : Nat, w = wn := ⟨w.toNat, by omega⟩
  obtain ⟨hn, rfl⟩ : ∃ hn : Nat, h = hn := ⟨h.toNat, by omega⟩
  have c8 : n = wn * hn := by have : ((wn * hn : Nat) : Int) = wn * hn := by { push_cast; rfl }; omega
  subst c8
  have HM := Lib.hid (fun j hj => mayB_iff.1 (c7 j hj))
  have HD := Lib.hid (And.intro c1 (And.intro c3 (And.intro c2 c4)))
  clear hb hv hn2 c6 c7 c5 hm1 hn1 c1 c2 c3 c4
  go_wp2_with fail
  have hb := below_alloc1 w3 (.cells #[.int .i64 (wn : Int), .int .i64 (hn : Int), .slice (some ad) (wn * hn) cap0] 25)
  have m13 := blk_new w3 (.cells #[.int .i64 (wn : Int), .int .i64 (hn : Int), .slice (some ad) (wn * hn) cap0] 25)
  obtain ⟨w4, hw4⟩ : ∃ w4, w3.alloc (.cells #[.int .i64 (wn : Int), .int .i64 (hn : Int), .slice (some ad) (wn * hn) cap0] 25) = w4 := ⟨_, rfl⟩
  rw [hw4] at hb m13
  rw [hw4]
  replace hr := hr.below hb
  replace hB := below_next hB hb
  clear hb hw4
  refine (land_any x y 1000 v2 n2 u2 w4 (hv2.below hB)).mono ?_
  rintro e w5 ⟨hb, ⟨hland, rfl⟩ | ⟨hno, rfl⟩⟩
  rotate_left
  · replace hB := below_next hB hb
    go_wp2_with fail
    go_ret
    exact ⟨rfl, below_alloc hB _⟩
  replace hB := below_next hB hb
  replace hr := hr.below hb
  replace m13 := below_blk hb m13
  obtain ⟨o2, cap2, rfl, hn3, hn4⟩ := hv2.below hB
  obtain ⟨d1, d2, d3, d4, d5, d6, d7⟩ := hland
  have hm2 := Int.mul_le_mul d1 d2 (by omega) (by omega)
  obtain ⟨ad2, rfl, hr2⟩ := hn4 (by omega)
  obtain ⟨xn, rfl⟩ : ∃ xn : Nat, x = xn := ⟨x.toNat, by omega⟩
  obtain ⟨yn, rfl⟩ : ∃ yn : Nat, y = yn := ⟨y.toNat, by omega⟩
  have d8 : n2 = xn * yn := by have : ((xn * yn : Nat) : Int) = xn * yn := by { push_cast; rfl }; omega
  subst d8
  have HM2 := Lib.hid (fun j hj => mayB_iff.1 (d7 j hj))
  have HD2 := Lib.hid (And.intro d1 (And.intro d3 (And.intro d2 d4)))
  clear hb hv2 hn4 d6 d7 d5 hm2 hn3 d1 d2 d3 d4
  go_wp2_with fail
  have hb := below_alloc1 w5 (.cells #[.int .i64 (xn : Int), .int .i64 (yn : Int), .slice (some ad2) (xn * yn) cap2] 25)
  have m15 := blk_new w5 (.cells #[.int .i64 (xn : Int), .int .i64 (yn : Int), .slice (some ad2) (xn * yn) cap2] 25)
  obtain ⟨w6, hw6⟩ : ∃ w6, w5.alloc (.cells #[.int .i64 (xn : Int), .int .i64 (yn : Int), .slice (some ad2) (xn * yn) cap2] 25) = w6 := ⟨_, rfl⟩
  rw [hw6] at hb m15
  rw [hw6]
  replace m13 := below_blk hb m13
  replace hr := hr.below hb
  replace hr2 := hr2.below hb
  replace hB := below_next hB hb
  clear hb hw6
  obtain ⟨c1, c3, c2, c4⟩ := HD.out
  refine (made_ok wn hn w6 (by omega) (by omega) (by omega) (by omega) ad cap0 u HM.out hr).mono ?_
  rintro e w7 ⟨ga, Fa, rfl, hb, hFa, HGa⟩
  replace hr2 := hr2.below hb
  replace hr := hr.below hb
  replace m13 := below_blk hb m13
  replace m15 := below_blk hb m15
  replace hB := below_next hB hb
  clear hb hFa
  go_wp2_with fail
  obtain ⟨d1, d3, d2, d4⟩ := HD2.out
  refine (made_ok xn yn w7 (by omega) (by omega) (by omega) (by omega) ad2 cap2 u2 HM2.out hr2).mono ?_
  rintro e w8 ⟨gb, Fb, rfl, hb, hFb, HGb⟩
  replace hr2 := hr2.below hb
  replace hr := hr.below hb
  replace m13 := below_blk hb m13
  replace m15 := below_blk hb m15
  replace hB := below_next hB hb
  replace HGa := HGa.below hb
  have HBa := Lib.hid (fenB_of HM.out)
  have HBb := Lib.hid (fenB_of HM2.out)
  clear hb hFb d1 d2 d3 d4 c1 c2 c3 c4 HM HM2 HD HD2
  go_wp2_with fail
  refine (build_ok ga Fa wn hn _ w8 HGa).mono ?_
  rintro e w9 ⟨p, Fp, rfl, hb, hFp, HP⟩
  replace hr := hr.below hb
  replace hr2 := hr2.below hb
  replace m13 := below_blk hb m13
  replace m15 := below_blk hb m15
  replace HGa := HGa.below hb
  replace HGb := HGb.below hb
  replace hB := below_next hB hb
  clear hb
  go_wp2_with fail
  refine (build_ok gb Fb xn yn _ w9 HGb).mono ?_
  rintro e w10 ⟨q, Fq, rfl, hb, hFq, HQ⟩
  replace hr := hr.below hb
  replace hr2 := hr2.below hb
  replace m13 := below_blk hb m13
  replace m15 := below_blk hb m15
  replace HGa := HGa.below hb
  replace HGb := HGb.below hb
  replace HP := HP.below hb
  replace hB := below_next hB hb
  clear hb
  clear hFp hFq
  go_wp2_with fail
  refine (fen_Of_ok ga Fa wn hn _ w10 HGa HBa.out).mono ?_
  rintro e w11 ⟨b, A, rfl, hb, _, _, HF⟩
  replace hr := hr.below hb
  replace hr2 := hr2.below hb
  replace m13 := below_blk hb m13
  replace m15 := below_blk hb m15
  replace HGa := HGa.below hb
  replace HGb := HGb.below hb
  replace HP := HP.below hb
  replace HQ := HQ.below hb
  replace hB := below_next hB hb
  clear hb
  go_wp2_with fail
  refine (fen_Of_ok gb Fb xn yn _ w11 HGb HBb.out).mono ?_
  rintro e w12 ⟨b2, A2, rfl, hb, _, _, HK⟩
  replace hr := hr.below hb
  replace hr2 := hr2.below hb
  replace m13 := below_blk hb m13
  replace m15 := below_blk hb m15
  replace HGa := HGa.below hb
  replace HGb := HGb.below hb
  replace HP := HP.below hb
  replace HQ := HQ.below hb
  replace HF := HF.below hb
  replace hB := below_next hB hb
  clear hb
  clear HGb HBa HBb
  go_wp2_with fail
  have hb := below_alloc1 w12 (.cells #[] 55)
  obtain ⟨w13, hw13⟩ : ∃ w13, w12.alloc (.cells #[] 55) = w13 := ⟨_, rfl⟩
  rw [hw13] at hb
  rw [hw13]
  clear hw13
  replace hr := hr.below hb
  replace hr2 := hr2.below hb
  replace m13 := below_blk hb m13
  replace m15 := below_blk hb m15
  replace HGa := HGa.below hb
  replace HP := HP.below hb
  replace HQ := HQ.below hb
  replace HF := HF.below hb
  replace HK := HK.below hb
  replace hB := below_next hB hb
  clear hb
  refine (audit_Check_bad (.pointer none) (.pointer (some ⟨p, 0, none⟩)) (.pointer (some ⟨b, 0, none⟩)) 1 (by omega) w13 (ck_nil1 p b w13)).mono ?_
  rintro e w14 ⟨rfl, hb⟩
  replace hr := hr.below hb
  replace hr2 := hr2.below hb
  replace m13 := below_blk hb m13
  replace m15 := below_blk hb m15
  replace HGa := HGa.below hb
  replace HP := HP.below hb
  replace HQ := HQ.below hb
  replace HF := HF.below hb
  replace HK := HK.below hb
  replace hB := below_next hB hb
  clear hb
  go_wp2_with fail
  refine (audit_Check_bad (.pointer (some ⟨ga, 0, none⟩)) (.pointer none) (.pointer (some ⟨b, 0, none⟩)) 1 (by omega) w14 (ck_nil2 ga b w14)).mono ?_
  rintro e w15 ⟨rfl, hb⟩
  replace hr := hr.below hb
  replace hr2 := hr2.below hb
  replace m13 := below_blk hb m13
  replace m15 := below_blk hb m15
  replace HGa := HGa.below hb
  replace HP := HP.below hb
  replace HQ := HQ.below hb
  replace HF := HF.below hb
  replace HK := HK.below hb
  replace hB := below_next hB hb
  clear hb
  go_wp2_with fail
  refine (audit_Check_bad (.pointer (some ⟨ga, 0, none⟩)) (.pointer (some ⟨p, 0, none⟩)) (.pointer none) 1 (by omega) w15 (ck_nil3 ga p w15)).mono ?_
  rintro e w16 ⟨rfl, hb⟩
  replace hr := hr.below hb
  replace hr2 := hr2.below hb
  replace m13 := below_blk hb m13
  replace m15 := below_blk hb m15
  replace HGa := HGa.below hb
  replace HP := HP.below hb
  replace HQ := HQ.below hb
  replace HF := HF.below hb
  replace HK := HK.below hb
  replace hB := below_next hB hb
  clear hb
  go_wp2_with fail
  refine (same38_zero none (some ⟨w12.heap.size, 0, none⟩) 0 0 w16).mono ?_
  rintro e w17 ⟨rfl, hb⟩
  replace hr := hr.below hb
  replace hr2 := hr2.below hb
  replace m13 := below_blk hb m13
  replace m15 := below_blk hb m15
  replace HGa := HGa.below hb
  replace HP := HP.below hb
  replace HQ := HQ.below hb
  replace HF := HF.below hb
  replace HK := HK.below hb
  replace hB := below_next hB hb
  clear hb
  go_wp2_with fail
  refine (same38_zero none (some ⟨w12.heap.size, 0, none⟩) 0 0 w17).mono ?_
  rintro e w18 ⟨rfl, hb⟩
  replace hr := hr.below hb
  replace hr2 := hr2.below hb
  replace m13 := below_blk hb m13
  replace m15 := below_blk hb m15
  replace HGa := HGa.below hb
  replace HP := HP.below hb
  replace HQ := HQ.below hb
  replace HF := HF.below hb
  replace HK := HK.below hb
  replace hB := below_next hB hb
  clear hb
  go_wp2_with fail
  refine (same38_zero none (some ⟨w12.heap.size, 0, none⟩) 0 0 w18).mono ?_
  rintro e w19 ⟨rfl, hb⟩
  replace hr := hr.below hb
  replace hr2 := hr2.below hb
  replace m13 := below_blk hb m13
  replace m15 := below_blk hb m15
  replace HGa := HGa.below hb
  replace HP := HP.below hb
  replace HQ := HQ.below hb
  replace HF := HF.below hb
  replace HK := HK.below hb
  replace hB := below_next hB hb
  clear hb
  go_wp2_with fail
  refine (audit_Heal_bad (.pointer none) (.pointer (some ⟨p, 0, none⟩)) (.pointer (some ⟨b, 0, none⟩)) 1 (by omega) w19 (ck_nil1 p b w19)).mono ?_
  rintro e w20 ⟨rfl, hb⟩
  replace hr := hr.below hb
  replace hr2 := hr2.below hb
  replace m13 := below_blk hb m13
  replace m15 := below_blk hb m15
  replace HGa := HGa.below hb
  replace HP := HP.below hb
  replace HQ := HQ.below hb
  replace HF := HF.below hb
  replace HK := HK.below hb
  replace hB := below_next hB hb
  clear hb
  by_cases he : wn = xn ∧ hn = yn
  · have t1 : decide (wn = xn) = true := decide_eq_true he.1
    have t2 : decide (hn = yn) = true := decide_eq_true he.2
    have s1 : ((wn : Int) == (xn : Int)) = true := by simp [he.1]
    have s2 : ((hn : Int) == (yn : Int)) = true := by simp [he.2]
    go_wp2_with fail
    go_ret
    exact ⟨rfl, hB⟩
  by_cases hx : wn = xn
  · have hy : hn ≠ yn := fun z => he ⟨hx, z⟩
    have t1 : decide (wn = xn) = true := decide_eq_true hx
    have t2 : decide (hn = yn) = false := decide_eq_false hy
    have s1 : ((wn : Int) == (xn : Int)) = true := by simp [hx]
    have s2 : ((hn : Int) == (yn : Int)) = false := by simp; omega
    have ck1 := fun W' (f1 f2 : Int → Int → Int) (S : Nat → Nat → Int) (G : GridAt W' ga Fa wn hn f1) (Q : PyrAt W' q Fq xn yn f2) (F : FenAt W' b A wn hn S) => audit_check_any ga Fa wn hn f1 q Fq xn yn f2 b A wn hn S W' G Q F 3 ⟨fun z => absurd ⟨by omega, by omega⟩ he, fun _ => rfl⟩
    have ck2 := fun W' (f1 f2 : Int → Int → Int) (S : Nat → Nat → Int) (G : GridAt W' ga Fa wn hn f1) (Q : PyrAt W' p Fp wn hn f2) (F : FenAt W' b2 A2 xn yn S) => audit_check_any ga Fa wn hn f1 p Fp wn hn f2 b2 A2 xn yn S W' G Q F 3 ⟨fun z => absurd ⟨by omega, by omega⟩ he, fun _ => rfl⟩
    have ck3 := fun W' (f1 f2 : Int → Int → Int) (S : Nat → Nat → Int) (G : GridAt W' ga Fa wn hn f1) (Q : PyrAt W' q Fq xn yn f2) (F : FenAt W' b2 A2 xn yn S) => audit_check_any ga Fa wn hn f1 q Fq xn yn f2 b2 A2 xn yn S W' G Q F 3 ⟨fun z => absurd ⟨by omega, by omega⟩ he, fun _ => rfl⟩
    have C1 := Lib.hid ck1
    have C2 := Lib.hid ck2
    have C3 := Lib.hid ck3
    clear ck1 ck2 ck3 hx hy he
    go_wp2_with fail
    refine (audit_Check_bad (.pointer (some ⟨ga, 0, none⟩)) (.pointer (some ⟨q, 0, none⟩)) (.pointer (some ⟨b, 0, none⟩)) 3 (by omega) w20 (C1.out w20 _ _ _ HGa HQ HF)).mono ?_
    rintro e w21 ⟨rfl, hb⟩
    replace hr := hr.below hb
    replace hr2 := hr2.below hb
    replace m13 := below_blk hb m13
    replace m15 := below_blk hb m15
    replace HGa := HGa.below hb
    replace HP := HP.below hb
    replace HQ := HQ.below hb
    replace HF := HF.below hb
    replace HK := HK.below hb
    replace hB := below_next hB hb
    clear hb
    go_wp2_with fail
    refine (audit_Check_bad (.pointer (some ⟨ga, 0, none⟩)) (.pointer (some ⟨p, 0, none⟩)) (.pointer (some ⟨b2, 0, none⟩)) 3 (by omega) w21 (C2.out w21 _ _ _ HGa HP HK)).mono ?_
    rintro e w22 ⟨rfl, hb⟩
    replace hr := hr.below hb
    replace hr2 := hr2.below hb
    replace m13 := below_blk hb m13
    replace m15 := below_blk hb m15
    replace HGa := HGa.below hb
    replace HP := HP.below hb
    replace HQ := HQ.below hb
    replace HF := HF.below hb
    replace HK := HK.below hb
    replace hB := below_next hB hb
    clear hb
    go_wp2_with fail
    refine (audit_Heal_bad (.pointer (some ⟨ga, 0, none⟩)) (.pointer (some ⟨q, 0, none⟩)) (.pointer (some ⟨b2, 0, none⟩)) 3 (by omega) w22 (C3.out w22 _ _ _ HGa HQ HK)).mono ?_
    rintro e w23 ⟨rfl, hb⟩
    replace hr := hr.below hb
    replace hr2 := hr2.below hb
    replace m13 := below_blk hb m13
    replace m15 := below_blk hb m15
    replace HGa := HGa.below hb
    replace HP := HP.below hb
    replace HQ := HQ.below hb
    replace HF := HF.below hb
    replace HK := HK.below hb
    replace hB := below_next hB hb
    clear hb
    clear C1 C2 C3 HGa HF HK
    have i_0 := cells_w m13 0 rfl
    have i_1 := cells_w m13 1 rfl
    have i_2 := cells_w m13 2 rfl
    have l_0 := cells_w m15 0 rfl
    have l_1 := cells_w m15 1 rfl
    have l_2 := cells_w m15 2 rfl
    go_wp2_with fail
    refine (over_ok p Fp ad cap0 (wn * hn) u wn hn w23 HP (by push_cast; rfl) hr).mono ?_
    rintro e w24 ⟨rfl, hb⟩
    replace HQ := HQ.below hb
    replace hr2 := hr2.below hb
    replace m15 := below_blk hb m15
    replace hB := below_next hB hb
    clear hb i_0 i_1 i_2 l_0 l_1 l_2
    have l_0 := cells_w m15 0 rfl
    have l_1 := cells_w m15 1 rfl
    have l_2 := cells_w m15 2 rfl
    go_wp2_with fail
    refine (over_ok q Fq ad2 cap2 (xn * yn) u2 xn yn w24 HQ (by push_cast; rfl) hr2).mono ?_
    rintro e w25 ⟨rfl, hb⟩
    replace hB := below_next hB hb
    clear hb l_0 l_1 l_2
    go_wp2_with fail
    go_ret
    exact ⟨rfl, hB⟩
  · have t1 : decide (wn = xn) = false := decide_eq_false hx
    have s1 : ((wn : Int) == (xn : Int)) = false := by simp; omega
    have ck1 := fun W' (f1 f2 : Int → Int → Int) (S : Nat → Nat → Int) (G : GridAt W' ga Fa wn hn f1) (Q : PyrAt W' q Fq xn yn f2) (F : FenAt W' b A wn hn S) => audit_check_any ga Fa wn hn f1 q Fq xn yn f2 b A wn hn S W' G Q F 3 ⟨fun z => absurd ⟨by omega, by omega⟩ he, fun _ => rfl⟩
    have ck2 := fun W' (f1 f2 : Int → Int → Int) (S : Nat → Nat → Int) (G : GridAt W' ga Fa wn hn f1) (Q : PyrAt W' p Fp wn hn f2) (F : FenAt W' b2 A2 xn yn S) => audit_check_any ga Fa wn hn f1 p Fp wn hn f2 b2 A2 xn yn S W' G Q F 3 ⟨fun z => absurd ⟨by omega, by omega⟩ he, fun _ => rfl⟩
    have ck3 := fun W' (f1 f2 : Int → Int → Int) (S : Nat → Nat → Int) (G : GridAt W' ga Fa wn hn f1) (Q : PyrAt W' q Fq xn yn f2) (F : FenAt W' b2 A2 xn yn S) => audit_check_any ga Fa wn hn f1 q Fq xn yn f2 b2 A2 xn yn S W' G Q F 3 ⟨fun z => absurd ⟨by omega, by omega⟩ he, fun _ => rfl⟩
    have C1 := Lib.hid ck1
    have C2 := Lib.hid ck2
    have C3 := Lib.hid ck3
    clear ck1 ck2 ck3 hx he
    go_wp2_with fail
    refine (audit_Check_bad (.pointer (some ⟨ga, 0, none⟩)) (.pointer (some ⟨q, 0, none⟩)) (.pointer (some ⟨b, 0, none⟩)) 3 (by omega) w20 (C1.out w20 _ _ _ HGa HQ HF)).mono ?_
    rintro e w21 ⟨rfl, hb⟩
    replace hr := hr.below hb
    replace hr2 := hr2.below hb
    replace m13 := below_blk hb m13
    replace m15 := below_blk hb m15
    replace HGa := HGa.below hb
    replace HP := HP.below hb
    replace HQ := HQ.below hb
    replace HF := HF.below hb
    replace HK := HK.below hb
    replace hB := below_next hB hb
    clear hb
    go_wp2_with fail
    refine (audit_Check_bad (.pointer (some ⟨ga, 0, none⟩)) (.pointer (some ⟨p, 0, none⟩)) (.pointer (some ⟨b2, 0, none⟩)) 3 (by omega) w21 (C2.out w21 _ _ _ HGa HP HK)).mono ?_
    rintro e w22 ⟨rfl, hb⟩
    replace hr := hr.below hb
    replace hr2 := hr2.below hb
    replace m13 := below_blk hb m13
    replace m15 := below_blk hb m15
    replace HGa := HGa.below hb
    replace HP := HP.below hb
    replace HQ := HQ.below hb
    replace HF := HF.below hb
    replace HK := HK.below hb
    replace hB := below_next hB hb
    clear hb
    go_wp2_with fail
    refine (audit_Heal_bad (.pointer (some ⟨ga, 0, none⟩)) (.pointer (some ⟨q, 0, none⟩)) (.pointer (some ⟨b2, 0, none⟩)) 3 (by omega) w22 (C3.out w22 _ _ _ HGa HQ HK)).mono ?_
    rintro e w23 ⟨rfl, hb⟩
    replace hr := hr.below hb
    replace hr2 := hr2.below hb
    replace m13 := below_blk hb m13
    replace m15 := below_blk hb m15
    replace HGa := HGa.below hb
    replace HP := HP.below hb
    replace HQ := HQ.below hb
    replace HF := HF.below hb
    replace HK := HK.below hb
    replace hB := below_next hB hb
    clear hb
    clear C1 C2 C3 HGa HF HK
    have i_0 := cells_w m13 0 rfl
    have i_1 := cells_w m13 1 rfl
    have i_2 := cells_w m13 2 rfl
    have l_0 := cells_w m15 0 rfl
    have l_1 := cells_w m15 1 rfl
    have l_2 := cells_w m15 2 rfl
    go_wp2_with fail
    refine (over_ok p Fp ad cap0 (wn * hn) u wn hn w23 HP (by push_cast; rfl) hr).mono ?_
    rintro e w24 ⟨rfl, hb⟩
    replace HQ := HQ.below hb
    replace hr2 := hr2.below hb
    replace m15 := below_blk hb m15
    replace hB := below_next hB hb
    clear hb i_0 i_1 i_2 l_0 l_1 l_2
    have l_0 := cells_w m15 0 rfl
    have l_1 := cells_w m15 1 rfl
    have l_2 := cells_w m15 2 rfl
    go_wp2_with fail
    refine (over_ok q Fq ad2 cap2 (xn * yn) u2 xn yn w24 HQ (by push_cast; rfl) hr2).mono ?_
    rintro e w25 ⟨rfl, hb⟩
    replace hB := below_next hB hb
    clear hb l_0 l_1 l_2
    go_wp2_with fail
    go_ret
    exact ⟨rfl, hB⟩
end Go.Proofs.Ytfnflgcalhiamaa

/- Texts of this claim, joined: Sizes38, FenAddP, FenAdd. -/
import Derived.Test.YtfnflgcalhiamaaPackSz7
import Derived.Test.YtfnflgcalhiamaaPackSz8
import Derived.Test.YtfnflgcalhiamaaPackSz12
import Derived.Test.YtfnflgcalhiamaaPackSz16
/- hachurelaw38.AuditSizes: the walk. -/
set_option linter.unusedVariables false
set_option linter.unusedSimpArgs false
namespace Go.Proofs.Ytfnflgcalhiamaa
open Go.RowKit

theorem fenB_of {w h : Nat} {u : Nat → Int} (hu : ∀ j, j < w * h → -2147483648 ≤ u j ∧ u j ≤ 2147483647) : FenB (fun x y => u ((y * (w : Int) + x).toNat)) w h := by
  intro x y a1 a2 a3 a4
  obtain ⟨X, rfl⟩ : ∃ X : Nat, x = X := ⟨x.toNat, by omega⟩
  obtain ⟨Y, rfl⟩ : ∃ Y : Nat, y = Y := ⟨y.toNat, by omega⟩
  have e : ((Y : Int) * (w : Int) + (X : Int)).toNat = Y * w + X := by
    have : (Y : Int) * (w : Int) + (X : Int) = ((Y * w + X : Nat) : Int) := by push_cast; rfl
    rw [this]; exact Int.toNat_natCast _
  have hm := Nat.mul_le_mul_right w (show Y + 1 ≤ h by omega)
  rw [Nat.add_mul, Nat.mul_comm h w] at hm
  have := hu (Y * w + X) (by omega)
  show _ ≤ u _ ∧ u _ ≤ _
  rw [e]
  omega
/-- One of them isn't there. -/
theorem ck_nil1 (p b : Nat) (W : World) : Calls Try.prog 28 #[.pointer none, .pointer (some ⟨p, 0, none⟩), .pointer (some ⟨b, 0, none⟩)] W fun e W' => e = .returned (.int .i64 1) ∧ Below W.heap.size W W' := audit_check_nil none (some p) (some b) W (.inl rfl)
theorem ck_nil2 (g b : Nat) (W : World) : Calls Try.prog 28 #[.pointer (some ⟨g, 0, none⟩), .pointer none, .pointer (some ⟨b, 0, none⟩)] W fun e W' => e = .returned (.int .i64 1) ∧ Below W.heap.size W W' := audit_check_nil (some g) none (some b) W (.inr (.inl rfl))
theorem ck_nil3 (g p : Nat) (W : World) : Calls Try.prog 28 #[.pointer (some ⟨g, 0, none⟩), .pointer (some ⟨p, 0, none⟩), .pointer none] W fun e W' => e = .returned (.int .i64 1) ∧ Below W.heap.size W W' := audit_check_nil (some g) (some p) none W (.inr (.inr rfl))

set_option maxHeartbeats 4000000 in
set_option maxRecDepth 100000 in
theorem sizes38_any (w h x y : Int) (v v2 : Value) (n n2 : Nat) (u u2 : Nat → Int) (W : World) (hv : ArgAt W v n u) (hv2 : ArgAt W v2 n2 u2) :
    Calls Try.prog 4 #[.int .i64 w, .int .i64 h, v, .int .i64 x, .int .i64 y, v2] W fun e W' => e = .returned (.bool true) ∧ Below W.heap.size W W' := by
  go_enter Try.func4, Try.ntmps4
  go_wp2_with fail
  refine (awake38_ok _).mono ?_
  rintro e w2 ⟨rfl, hb⟩
  have hB := hb
  clear hb
  go_wp2_with fail
  refine (land_any w h 1000 v n u w2 (hv.below hB)).mono ?_
  rintro e w3 ⟨hb, ⟨hland, rfl⟩ | ⟨hno, rfl⟩⟩
  rotate_left
  · replace hB := below_next hB hb
    obtain ⟨o2, cap2, rfl, hn3, hn4⟩ := hv2
    have hv2 : ArgAt W (.slice o2 n2 cap2) n2 u2 := ⟨o2, cap2, rfl, hn3, hn4⟩
    go_wp2_with fail
    refine (land_any x y 1000 (.slice o2 n2 cap2) n2 u2 _ (hv2.below (below_alloc hB _))).mono ?_
    rintro e w4 ⟨hb4, ⟨_, rfl⟩ | ⟨_, rfl⟩⟩
    · go_wp2_with fail
      go_ret
      exact ⟨rfl, below_alloc (below_next (below_alloc hB _) hb4) _⟩
    · go_wp2_with fail
      go_ret
      exact ⟨rfl, below_alloc (below_next (below_alloc hB _) hb4) _⟩
  replace hB := below_next hB hb
  obtain ⟨o, cap0, rfl, hn1, hn2⟩ := hv.below hB
  obtain ⟨c1, c2, c3, c4, c5, c6, c7⟩ := hland
  have hm1 := Int.mul_le_mul c1 c2 (by omega) (by omega)
  obtain ⟨ad, rfl, hr⟩ := hn2 (by omega)
  obtain ⟨wn, rfl⟩ : ∃ wn : Nat, w = wn := ⟨w.toNat, by omega⟩
  obtain ⟨hn, rfl⟩ : ∃ hn : Nat, h = hn := ⟨h.toNat, by omega⟩
  have c8 : n = wn * hn := by have : ((wn * hn : Nat) : Int) = wn * hn := by { push_cast; rfl }; omega
  subst c8
  have HM := Lib.hid (fun j hj => mayB_iff.1 (c7 j hj))
  have HD := Lib.hid (And.intro c1 (And.intro c3 (And.intro c2 c4)))
  clear hb hv hn2 c6 c7 c5 hm1 hn1 c1 c2 c3 c4
  go_wp2_with fail
  have hb := below_alloc1 w3 (.cells #[.int .i64 (wn : Int), .int .i64 (hn : Int), .slice (some ad) (wn * hn) cap0] 25)
  have m13 := blk_new w3 (.cells #[.int .i64 (wn : Int), .int .i64 (hn : Int), .slice (some ad) (wn * hn) cap0] 25)
  obtain ⟨w4, hw4⟩ : ∃ w4, w3.alloc (.cells #[.int .i64 (wn : Int), .int .i64 (hn : Int), .slice (some ad) (wn * hn) cap0] 25) = w4 := ⟨_, rfl⟩
  rw [hw4] at hb m13
  rw [hw4]
  replace hr := hr.below hb
  replace hB := below_next hB hb
  clear hb hw4
  refine (land_any x y 1000 v2 n2 u2 w4 (hv2.below hB)).mono ?_
  rintro e w5 ⟨hb, ⟨hland, rfl⟩ | ⟨hno, rfl⟩⟩
  rotate_left
  · replace hB := below_next hB hb
    go_wp2_with fail
    go_ret
    exact ⟨rfl, below_alloc hB _⟩
  replace hB := below_next hB hb
  replace hr := hr.below hb
  replace m13 := below_blk hb m13
  obtain ⟨o2, cap2, rfl, hn3, hn4⟩ := hv2.below hB
  obtain ⟨d1, d2, d3, d4, d5, d6, d7⟩ := hland
  have hm2 := Int.mul_le_mul d1 d2 (by omega) (by omega)
  obtain ⟨ad2, rfl, hr2⟩ := hn4 (by omega)
  obtain ⟨xn, rfl⟩ : ∃ xn : Nat, x = xn := ⟨x.toNat, by omega⟩
  obtain ⟨yn, rfl⟩ : ∃ yn : Nat, y = yn := ⟨y.toNat, by omega⟩
  have d8 : n2 = xn * yn := by have : ((xn * yn : Nat) : Int) = xn * yn := by { push_cast; rfl }; omega
  subst d8
  have HM2 := Lib.hid (fun j hj => mayB_iff.1 (d7 j hj))
  have HD2 := Lib.hid (And.intro d1 (And.intro d3 (And.intro d2 d4)))
  clear hb hv2 hn4 d6 d7 d5 hm2 hn3 d1 d2 d3 d4
  go_wp2_with fail
  have hb := below_alloc1 w5 (.cells #[.int .i64 (xn : Int), .int .i64 (yn : Int), .slice (some ad2) (xn * yn) cap2] 25)
  have m15 := blk_new w5 (.cells #[.int .i64 (xn : Int), .int .i64 (yn : Int), .slice (some ad2) (xn * yn) cap2] 25)
  obtain ⟨w6, hw6⟩ : ∃ w6, w5.alloc (.cells #[.int .i64 (xn : Int), .int .i64 (yn : Int), .slice (some ad2) (xn * yn) cap2] 25) = w6 := ⟨_, rfl⟩
  rw [hw6] at hb m15
  rw [hw6]
  replace m13 := below_blk hb m13
  replace hr := hr.below hb
  replace hr2 := hr2.below hb
  replace hB := below_next hB hb
  clear hb hw6
  obtain ⟨c1, c3, c2, c4⟩ := HD.out
  refine (made_ok wn hn w6 (by omega) (by omega) (by omega) (by omega) ad cap0 u HM.out hr).mono ?_
  rintro e w7 ⟨ga, Fa, rfl, hb, hFa, HGa⟩
  replace hr2 := hr2.below hb
  replace hr := hr.below hb
  replace m13 := below_blk hb m13
  replace m15 := below_blk hb m15
  replace hB := below_next hB hb
  clear hb hFa
  go_wp2_with fail
  obtain ⟨d1, d3, d2, d4⟩ := HD2.out
  refine (made_ok xn yn w7 (by omega) (by omega) (by omega) (by omega) ad2 cap2 u2 HM2.out hr2).mono ?_
  rintro e w8 ⟨gb, Fb, rfl, hb, hFb, HGb⟩
  replace hr2 := hr2.below hb
  replace hr := hr.below hb
  replace m13 := below_blk hb m13
  replace m15 := below_blk hb m15
  replace hB := below_next hB hb
  replace HGa := HGa.below hb
  have HBa := Lib.hid (fenB_of HM.out)
  have HBb := Lib.hid (fenB_of HM2.out)
  clear hb hFb d1 d2 d3 d4 c1 c2 c3 c4 HM HM2 HD HD2
  go_wp2_with fail
  refine (build_ok ga Fa wn hn _ w8 HGa).mono ?_
  rintro e w9 ⟨p, Fp, rfl, hb, hFp, HP⟩
  replace hr := hr.below hb
  replace hr2 := hr2.below hb
  replace m13 := below_blk hb m13
  replace m15 := below_blk hb m15
  replace HGa := HGa.below hb
  replace HGb := HGb.below hb
  replace hB := below_next hB hb
  clear hb
  go_wp2_with fail
  refine (build_ok gb Fb xn yn _ w9 HGb).mono ?_
  rintro e w10 ⟨q, Fq, rfl, hb, hFq, HQ⟩
  replace hr := hr.below hb
  replace hr2 := hr2.below hb
  replace m13 := below_blk hb m13
  replace m15 := below_blk hb m15
  replace HGa := HGa.below hb
  replace HGb := HGb.below hb
  replace HP := HP.below hb
  replace hB := below_next hB hb
  clear hb
  clear hFp hFq
  go_wp2_with fail
  refine (fen_Of_ok ga Fa wn hn _ w10 HGa HBa.out).mono ?_
  rintro e w11 ⟨b, A, rfl, hb, _, _, HF⟩
  replace hr := hr.below hb
  replace hr2 := hr2.below hb
  replace m13 := below_blk hb m13
  replace m15 := below_blk hb m15
  replace HGa := HGa.below hb
  replace HGb := HGb.below hb
  replace HP := HP.below hb
  replace HQ := HQ.below hb
  replace hB := below_next hB hb
  clear hb
  go_wp2_with fail
  refine (fen_Of_ok gb Fb xn yn _ w11 HGb HBb.out).mono ?_
  rintro e w12 ⟨b2, A2, rfl, hb, _, _, HK⟩
  replace hr := hr.below hb
  replace hr2 := hr2.below hb
  replace m13 := below_blk hb m13
  replace m15 := below_blk hb m15
  replace HGa := HGa.below hb
  replace HGb := HGb.below hb
  replace HP := HP.below hb
  replace HQ := HQ.below hb
  replace HF := HF.below hb
  replace hB := below_next hB hb
  clear hb
  clear HGb HBa HBb
  go_wp2_with fail
  have hb := below_alloc1 w12 (.cells #[] 55)
  obtain ⟨w13, hw13⟩ : ∃ w13, w12.alloc (.cells #[] 55) = w13 := ⟨_, rfl⟩
  rw [hw13] at hb
  rw [hw13]
  clear hw13
  replace hr := hr.below hb
  replace hr2 := hr2.below hb
  replace m13 := below_blk hb m13
  replace m15 := below_blk hb m15
  replace HGa := HGa.below hb
  replace HP := HP.below hb
  replace HQ := HQ.below hb
  replace HF := HF.below hb
  replace HK := HK.below hb
  replace hB := below_next hB hb
  clear hb
  refine (audit_Check_bad (.pointer none) (.pointer (some ⟨p, 0, none⟩)) (.pointer (some ⟨b, 0, none⟩)) 1 (by omega) w13 (ck_nil1 p b w13)).mono ?_
  rintro e w14 ⟨rfl, hb⟩
  replace hr := hr.below hb
  replace hr2 := hr2.below hb
  replace m13 := below_blk hb m13
  replace m15 := below_blk hb m15
  replace HGa := HGa.below hb
  replace HP := HP.below hb
  replace HQ := HQ.below hb
  replace HF := HF.below hb
  replace HK := HK.below hb
  replace hB := below_next hB hb
  clear hb
  go_wp2_with fail
  refine (audit_Check_bad (.pointer (some ⟨ga, 0, none⟩)) (.pointer none) (.pointer (some ⟨b, 0, none⟩)) 1 (by omega) w14 (ck_nil2 ga b w14)).mono ?_
  rintro e w15 ⟨rfl, hb⟩
  replace hr := hr.below hb
  replace hr2 := hr2.below hb
  replace m13 := below_blk hb m13
  replace m15 := below_blk hb m15
  replace HGa := HGa.below hb
  replace HP := HP.below hb
  replace HQ := HQ.below hb
  replace HF := HF.below hb
  replace HK := HK.below hb
  replace hB := below_next hB hb
  clear hb
  go_wp2_with fail
  refine (audit_Check_bad (.pointer (some ⟨ga, 0, none⟩)) (.pointer (some ⟨p, 0, none⟩)) (.pointer none) 1 (by omega) w15 (ck_nil3 ga p w15)).mono ?_
  rintro e w16 ⟨rfl, hb⟩
  replace hr := hr.below hb
  replace hr2 := hr2.below hb
  replace m13 := below_blk hb m13
  replace m15 := below_blk hb m15
  replace HGa := HGa.below hb
  replace HP := HP.below hb
  replace HQ := HQ.below hb
  replace HF := HF.below hb
  replace HK := HK.below hb
  replace hB := below_next hB hb
  clear hb
  go_wp2_with fail
  refine (same38_zero none (some ⟨w12.heap.size, 0, none⟩) 0 0 w16).mono ?_
  rintro e w17 ⟨rfl, hb⟩
  replace hr := hr.below hb
  replace hr2 := hr2.below hb
  replace m13 := below_blk hb m13
  replace m15 := below_blk hb m15
  replace HGa := HGa.below hb
  replace HP := HP.below hb
  replace HQ := HQ.below hb
  replace HF := HF.below hb
  replace HK := HK.below hb
  replace hB := below_next hB hb
  clear hb
  go_wp2_with fail
  refine (same38_zero none (some ⟨w12.heap.size, 0, none⟩) 0 0 w17).mono ?_
  rintro e w18 ⟨rfl, hb⟩
  replace hr := hr.below hb
  replace hr2 := hr2.below hb
  replace m13 := below_blk hb m13
  replace m15 := below_blk hb m15
  replace HGa := HGa.below hb
  replace HP := HP.below hb
  replace HQ := HQ.below hb
  replace HF := HF.below hb
  replace HK := HK.below hb
  replace hB := below_next hB hb
  clear hb
  go_wp2_with fail
  refine (same38_zero none (some ⟨w12.heap.size, 0, none⟩) 0 0 w18).mono ?_
  rintro e w19 ⟨rfl, hb⟩
  replace hr := hr.below hb
  replace hr2 := hr2.below hb
  replace m13 := below_blk hb m13
  replace m15 := below_blk hb m15
  replace HGa := HGa.below hb
  replace HP := HP.below hb
  replace HQ := HQ.below hb
  replace HF := HF.below hb
  replace HK := HK.below hb
  replace hB := below_next hB hb
  clear hb
  go_wp2_with fail
  refine (audit_Heal_bad (.pointer none) (.pointer (some ⟨p, 0, none⟩)) (.pointer (some ⟨b, 0, none⟩)) 1 (by omega) w19 (ck_nil1 p b w19)).mono ?_
  rintro e w20 ⟨rfl, hb⟩
  replace hr := hr.below hb
  replace hr2 := hr2.below hb
  replace m13 := below_blk hb m13
  replace m15 := below_blk hb m15
  replace HGa := HGa.below hb
  replace HP := HP.below hb
  replace HQ := HQ.below hb
  replace HF := HF.below hb
  replace HK := HK.below hb
  replace hB := below_next hB hb
  clear hb
  by_cases he : wn = xn ∧ hn = yn
  · have t1 : decide (wn = xn) = true := decide_eq_true he.1
    have t2 : decide (hn = yn) = true := decide_eq_true he.2
    have s1 : ((wn : Int) == (xn : Int)) = true := by simp [he.1]
    have s2 : ((hn : Int) == (yn : Int)) = true := by simp [he.2]
    go_wp2_with fail
    go_ret
    exact ⟨rfl, hB⟩
  by_cases hx : wn = xn
  · have hy : hn ≠ yn := fun z => he ⟨hx, z⟩
    have t1 : decide (wn = xn) = true := decide_eq_true hx
    have t2 : decide (hn = yn) = false := decide_eq_false hy
    have s1 : ((wn : Int) == (xn : Int)) = true := by simp [hx]
    have s2 : ((hn : Int) == (yn : Int)) = false := by simp; omega
    have ck1 := fun W' (f1 f2 : Int → Int → Int) (S : Nat → Nat → Int) (G : GridAt W' ga Fa wn hn f1) (Q : PyrAt W' q Fq xn yn f2) (F : FenAt W' b A wn hn S) => audit_check_any ga Fa wn hn f1 q Fq xn yn f2 b A wn hn S W' G Q F 3 ⟨fun z => absurd ⟨by omega, by omega⟩ he, fun _ => rfl⟩
    have ck2 := fun W' (f1 f2 : Int → Int → Int) (S : Nat → Nat → Int) (G : GridAt W' ga Fa wn hn f1) (Q : PyrAt W' p Fp wn hn f2) (F : FenAt W' b2 A2 xn yn S) => audit_check_any ga Fa wn hn f1 p Fp wn hn f2 b2 A2 xn yn S W' G Q F 3 ⟨fun z => absurd ⟨by omega, by omega⟩ he, fun _ => rfl⟩
    have ck3 := fun W' (f1 f2 : Int → Int → Int) (S : Nat → Nat → Int) (G : GridAt W' ga Fa wn hn f1) (Q : PyrAt W' q Fq xn yn f2) (F : FenAt W' b2 A2 xn yn S) => audit_check_any ga Fa wn hn f1 q Fq xn yn f2 b2 A2 xn yn S W' G Q F 3 ⟨fun z => absurd ⟨by omega, by omega⟩ he, fun _ => rfl⟩
    have C1 := Lib.hid ck1
    have C2 := Lib.hid ck2
    have C3 := Lib.hid ck3
    clear ck1 ck2 ck3 hx hy he
    go_wp2_with fail
    refine (audit_Check_bad (.pointer (some ⟨ga, 0, none⟩)) (.pointer (some ⟨q, 0, none⟩)) (.pointer (some ⟨b, 0, none⟩)) 3 (by omega) w20 (C1.out w20 _ _ _ HGa HQ HF)).mono ?_
    rintro e w21 ⟨rfl, hb⟩
    replace hr := hr.below hb
    replace hr2 := hr2.below hb
    replace m13 := below_blk hb m13
    replace m15 := below_blk hb m15
    replace HGa := HGa.below hb
    replace HP := HP.below hb
    replace HQ := HQ.below hb
    replace HF := HF.below hb
    replace HK := HK.below hb
    replace hB := below_next hB hb
    clear hb
    go_wp2_with fail
    refine (audit_Check_bad (.pointer (some ⟨ga, 0, none⟩)) (.pointer (some ⟨p, 0, none⟩)) (.pointer (some ⟨b2, 0, none⟩)) 3 (by omega) w21 (C2.out w21 _ _ _ HGa HP HK)).mono ?_
    rintro e w22 ⟨rfl, hb⟩
    replace hr := hr.below hb
    replace hr2 := hr2.below hb
    replace m13 := below_blk hb m13
    replace m15 := below_blk hb m15
    replace HGa := HGa.below hb
    replace HP := HP.below hb
    replace HQ := HQ.below hb
    replace HF := HF.below hb
    replace HK := HK.below hb
    replace hB := below_next hB hb
    clear hb
    go_wp2_with fail
    refine (audit_Heal_bad (.pointer (some ⟨ga, 0, none⟩)) (.pointer (some ⟨q, 0, none⟩)) (.pointer (some ⟨b2, 0, none⟩)) 3 (by omega) w22 (C3.out w22 _ _ _ HGa HQ HK)).mono ?_
    rintro e w23 ⟨rfl, hb⟩
    replace hr := hr.below hb
    replace hr2 := hr2.below hb
    replace m13 := below_blk hb m13
    replace m15 := below_blk hb m15
    replace HGa := HGa.below hb
    replace HP := HP.below hb
    replace HQ := HQ.below hb
    replace HF := HF.below hb
    replace HK := HK.below hb
    replace hB := below_next hB hb
    clear hb
    clear C1 C2 C3 HGa HF HK
    have i_0 := cells_w m13 0 rfl
    have i_1 := cells_w m13 1 rfl
    have i_2 := cells_w m13 2 rfl
    have l_0 := cells_w m15 0 rfl
    have l_1 := cells_w m15 1 rfl
    have l_2 := cells_w m15 2 rfl
    go_wp2_with fail
    refine (over_ok p Fp ad cap0 (wn * hn) u wn hn w23 HP (by push_cast; rfl) hr).mono ?_
    rintro e w24 ⟨rfl, hb⟩
    replace HQ := HQ.below hb
    replace hr2 := hr2.below hb
    replace m15 := below_blk hb m15
    replace hB := below_next hB hb
    clear hb i_0 i_1 i_2 l_0 l_1 l_2
    have l_0 := cells_w m15 0 rfl
    have l_1 := cells_w m15 1 rfl
    have l_2 := cells_w m15 2 rfl
    go_wp2_with fail
    refine (over_ok q Fq ad2 cap2 (xn * yn) u2 xn yn w24 HQ (by push_cast; rfl) hr2).mono ?_
    rintro e w25 ⟨rfl, hb⟩
    replace hB := below_next hB hb
    clear hb l_0 l_1 l_2
    go_wp2_with fail
    go_ret
    exact ⟨rfl, hB⟩
  · have t1 : decide (wn = xn) = false := decide_eq_false hx
    have s1 : ((wn : Int) == (xn : Int)) = false := by simp; omega
    have ck1 := fun W' (f1 f2 : Int → Int → Int) (S : Nat → Nat → Int) (G : GridAt W' ga Fa wn hn f1) (Q : PyrAt W' q Fq xn yn f2) (F : FenAt W' b A wn hn S) => audit_check_any ga Fa wn hn f1 q Fq xn yn f2 b A wn hn S W' G Q F 3 ⟨fun z => absurd ⟨by omega, by omega⟩ he, fun _ => rfl⟩
    have ck2 := fun W' (f1 f2 : Int → Int → Int) (S : Nat → Nat → Int) (G : GridAt W' ga Fa wn hn f1) (Q : PyrAt W' p Fp wn hn f2) (F : FenAt W' b2 A2 xn yn S) => audit_check_any ga Fa wn hn f1 p Fp wn hn f2 b2 A2 xn yn S W' G Q F 3 ⟨fun z => absurd ⟨by omega, by omega⟩ he, fun _ => rfl⟩
    have ck3 := fun W' (f1 f2 : Int → Int → Int) (S : Nat → Nat → Int) (G : GridAt W' ga Fa wn hn f1) (Q : PyrAt W' q Fq xn yn f2) (F : FenAt W' b2 A2 xn yn S) => audit_check_any ga Fa wn hn f1 q Fq xn yn f2 b2 A2 xn yn S W' G Q F 3 ⟨fun z => absurd ⟨by omega, by omega⟩ he, fun _ => rfl⟩
    have C1 := Lib.hid ck1
    have C2 := Lib.hid ck2
    have C3 := Lib.hid ck3
    clear ck1 ck2 ck3 hx he
    go_wp2_with fail
    refine (audit_Check_bad (.pointer (some ⟨ga, 0, none⟩)) (.pointer (some ⟨q, 0, none⟩)) (.pointer (some ⟨b, 0, none⟩)) 3 (by omega) w20 (C1.out w20 _ _ _ HGa HQ HF)).mono ?_
    rintro e w21 ⟨rfl, hb⟩
    replace hr := hr.below hb
    replace hr2 := hr2.below hb
    replace m13 := below_blk hb m13
    replace m15 := below_blk hb m15
    replace HGa := HGa.below hb
    replace HP := HP.below hb
    replace HQ := HQ.below hb
    replace HF := HF.below hb
    replace HK := HK.below hb
    replace hB := below_next hB hb
    clear hb
    go_wp2_with fail
    refine (audit_Check_bad (.pointer (some ⟨ga, 0, none⟩)) (.pointer (some ⟨p, 0, none⟩)) (.pointer (some ⟨b2, 0, none⟩)) 3 (by omega) w21 (C2.out w21 _ _ _ HGa HP HK)).mono ?_
    rintro e w22 ⟨rfl, hb⟩
    replace hr := hr.below hb
    replace hr2 := hr2.below hb
    replace m13 := below_blk hb m13
    replace m15 := below_blk hb m15
    replace HGa := HGa.below hb
    replace HP := HP.below hb
    replace HQ := HQ.below hb
    replace HF := HF.below hb
    replace HK := HK.below hb
    replace hB := below_next hB hb
    clear hb
    go_wp2_with fail
    refine (audit_Heal_bad (.pointer (some ⟨ga, 0, none⟩)) (.pointer (some ⟨q, 0, none⟩)) (.pointer (some ⟨b2, 0, none⟩)) 3 (by omega) w22 (C3.out w22 _ _ _ HGa HQ HK)).mono ?_
    rintro e w23 ⟨rfl, hb⟩
    replace hr := hr.below hb
    replace hr2 := hr2.below hb
    replace m13 := below_blk hb m13
    replace m15 := below_blk hb m15
    replace HGa := HGa.below hb
    replace HP := HP.below hb
    replace HQ := HQ.below hb
    replace HF := HF.below hb
    replace HK := HK.below hb
    replace hB := below_next hB hb
    clear hb
    clear C1 C2 C3 HGa HF HK
    have i_0 := cells_w m13 0 rfl
    have i_1 := cells_w m13 1 rfl
    have i_2 := cells_w m13 2 rfl
    have l_0 := cells_w m15 0 rfl
    have l_1 := cells_w m15 1 rfl
    have l_2 := cells_w m15 2 rfl
    go_wp2_with fail
    refine (over_ok p Fp ad cap0 (wn * hn) u wn hn w23 HP (by push_cast; rfl) hr).mono ?_
    rintro e w24 ⟨rfl, hb⟩
    replace HQ := HQ.below hb
    replace hr2 := hr2.below hb
    replace m15 := below_blk hb m15
    replace hB := below_next hB hb
    clear hb i_0 i_1 i_2 l_0 l_1 l_2
    have l_0 := cells_w m15 0 rfl
    have l_1 := cells_w m15 1 rfl
    have l_2 := cells_w m15 2 rfl
    go_wp2_with fail
    refine (over_ok q Fq ad2 cap2 (xn * yn) u2 xn yn w24 HQ (by push_cast; rfl) hr2).mono ?_
    rintro e w25 ⟨rfl, hb⟩
    replace hB := below_next hB hb
    clear hb l_0 l_1 l_2
    go_wp2_with fail
    go_ret
    exact ⟨rfl, hB⟩
end Go.Proofs.Ytfnflgcalhiamaa
/- fen.Add: plain. -/
set_option linter.unusedVariables false
set_option linter.unusedSimpArgs false
namespace Go.Proofs.Ytfnflgcalhiamaa

/-- v is come to from q. -/
def Ch (q v : Nat) : Prop := ∀ Y, 1 ≤ Y → Y ≤ 1024 → ((in1 q Y ∧ v ≤ Y) ↔ in1 v Y)
theorem ch_start (q : Nat) : Ch q q := fun Y h1 h2 => ⟨fun z => z.1, fun z => ⟨z, z.2⟩⟩
theorem ch_step {q v : Nat} (h : 1 ≤ v) (H : Ch q v) : Ch q (v + lb v) := fun Y h1 h2 => by
  have k := in1_next (q := v) (x := Y) h h2
  have b := H Y h1 h2
  constructor
  · rintro ⟨a1, a2⟩
    by_cases hv : v ≤ 1024
    · have := lb_bd h hv
      exact k.1 ⟨b.1 ⟨a1, by omega⟩, by omega⟩
    · omega
  · intro z
    have z2 := k.2 z
    exact ⟨(b.2 z2.1).1, z.2⟩
theorem in1_self {v : Nat} (h : 1 ≤ v) (h2 : v ≤ 1024) : in1 v v := by
  have := lb_bd h h2
  unfold in1
  omega
theorem ch_mem {q v : Nat} (h : 1 ≤ v) (h2 : v ≤ 1024) (H : Ch q v) : in1 q v := ((H v h h2).2 (in1_self h h2)).1
theorem ch_gap {q v Y : Nat} (h : 1 ≤ v) (H : Ch q v) (h2 : Y ≤ 1024) (hi : in1 q Y) (hY : v < Y) : v + lb v ≤ Y := by
  have a := (H Y (by omega) h2).1 ⟨hi, by omega⟩
  exact ((in1_next h h2).1 ⟨a, hY⟩).2

/-- Columns ahead of v are done; of v itself the places ahead of u. -/
def addS (f : Int → Int → Int) (x1 y1 : Nat) (d : Int) (v X Y : Nat) : Int := fenS f X Y + (if in1 x1 X ∧ in1 y1 Y ∧ Y < v then d else 0)
def addI (f : Int → Int → Int) (x1 y1 : Nat) (d : Int) (v u X Y : Nat) : Int := addS f x1 y1 d v X Y + (if in1 x1 X ∧ X < u ∧ Y = v then d else 0)
theorem addS_start {f : Int → Int → Int} {x1 y1 : Nat} {d : Int} {X Y : Nat} : addS f x1 y1 d y1 X Y = fenS f X Y := by
  unfold addS
  rw [if_neg (fun z => by have := z.2.1.2; omega)]
  omega
theorem addI_start {f : Int → Int → Int} {x1 y1 v : Nat} {d : Int} {X Y : Nat} : addI f x1 y1 d v x1 X Y = addS f x1 y1 d v X Y := by
  unfold addI
  rw [if_neg (fun z => by have := z.1.2; omega)]
  omega
theorem addI_step {f : Int → Int → Int} {x1 y1 u v : Nat} {d : Int} {X Y : Nat} (hu : 1 ≤ u) (hu2 : u ≤ 1024) (H : Ch x1 u) (hX : X ≤ 1024) : addI f x1 y1 d v (u + lb u) X Y = if X = u ∧ Y = v then addI f x1 y1 d v u u v + d else addI f x1 y1 d v u X Y := by
  have b := lb_bd hu hu2
  unfold addI
  by_cases e : X = u ∧ Y = v
  · rw [if_pos e, e.1, e.2, if_pos ⟨ch_mem hu hu2 H, by omega, rfl⟩, if_neg (fun z => by have := z.2.1; omega)]
    omega
  · rw [if_neg e]
    by_cases e2 : in1 x1 X ∧ X < u ∧ Y = v
    · rw [if_pos e2, if_pos ⟨e2.1, by omega, e2.2.2⟩]
    · rw [if_neg e2, if_neg]
      rintro ⟨a1, a2, a3⟩
      by_cases e3 : X < u
      · exact e2 ⟨a1, e3, a3⟩
      · by_cases e4 : X = u
        · exact e ⟨e4, a3⟩
        · have := ch_gap hu H hX a1 (by omega)
          omega
theorem addI_end {f : Int → Int → Int} {x1 y1 u v w : Nat} {d : Int} {X Y : Nat} (hv : 1 ≤ v) (hv2 : v ≤ 1024) (H : Ch y1 v) (hX : X ≤ w) (hu : w < u) (hY : Y ≤ 1024) : addS f x1 y1 d (v + lb v) X Y = addI f x1 y1 d v u X Y := by
  have b := lb_bd hv hv2
  unfold addI addS
  by_cases e : Y = v
  · subst e
    by_cases e2 : in1 x1 X
    · rw [if_pos ⟨e2, ch_mem hv hv2 H, by omega⟩, if_neg (fun z => by have := z.2.2; omega), if_pos ⟨e2, by omega, rfl⟩]
      omega
    · rw [if_neg (fun z => e2 z.1), if_neg (fun z => e2 z.1), if_neg (fun z => e2 z.1)]
      omega
  · rw [if_neg (show ¬ (in1 x1 X ∧ X < u ∧ Y = v) from fun z => e z.2.2)]
    by_cases e2 : in1 x1 X ∧ in1 y1 Y ∧ Y < v
    · rw [if_pos e2, if_pos ⟨e2.1, e2.2.1, by omega⟩]; omega
    · rw [if_neg e2, if_neg]
      · omega
      · rintro ⟨a1, a2, a3⟩
        by_cases e3 : Y < v
        · exact e2 ⟨a1, a2, e3⟩
        · have := ch_gap hv H hY a2 (by omega)
          omega
/-- The land with one cell's value turned. -/
def bump (f : Int → Int → Int) (x y : Nat) (d : Int) : Int → Int → Int := fun X Y => if X = (x : Int) ∧ Y = (y : Int) then f X Y + d else f X Y
theorem addS_end {f : Int → Int → Int} {x y v h : Nat} {d : Int} {X Y : Nat} (hv : h < v) (h1 : 1 ≤ X) (h2 : X ≤ 1024) (h3 : 1 ≤ Y) (h4 : Y ≤ h) (hh : h ≤ 1024) : fenS (bump f x y d) X Y = addS f (x + 1) (y + 1) d v X Y := by
  have hr : ∀ j, 1 ≤ j → part (row1 (bump f x y d) j) X = (if j = y + 1 then part (row1 f j) X + (if in1 (x + 1) X then d else 0) else part (row1 f j) X) := fun j hj => by
    by_cases e : j = y + 1
    · rw [if_pos e, ← part_bump (q := x + 1) (by omega) h1 h2]
      refine part_congr (fun i a1 a2 => ?_)
      unfold row1 bump
      by_cases e2 : i = x + 1
      · rw [if_pos e2, if_pos (by omega)]
      · rw [if_neg e2, if_neg (by omega)]
    · rw [if_neg e]
      refine part_congr (fun i a1 a2 => ?_)
      unfold row1 bump
      rw [if_neg (by omega)]
  have e : fenS (bump f x y d) X Y = part (fun j => if j = y + 1 then part (row1 f j) X + (if in1 (x + 1) X then d else 0) else part (row1 f j) X) Y := by
    unfold fenS
    exact part_congr (fun j a1 a2 => hr j a1)
  rw [e, part_bump (a := fun j => part (row1 f j) X) (q := y + 1) (by omega) h3 (by omega)]
  unfold addS
  by_cases e1 : in1 (x + 1) X <;> by_cases e2 : in1 (y + 1) Y
  · rw [if_pos e2, if_pos e1, if_pos ⟨e1, e2, by omega⟩]; rfl
  · rw [if_neg e2, if_neg (fun z => e2 z.2.1)]; rfl
  · rw [if_pos e2, if_neg e1, if_neg (fun z => e1 z.1)]; rfl
  · rw [if_neg e2, if_neg (fun z => e2 z.2.1)]; rfl
theorem addI_bd {f : Int → Int → Int} {w h x1 y1 v u X Y : Nat} {d : Int} (hB : FenB f w h) (hw : w ≤ 1024) (hh : h ≤ 1024) (h1 : 1 ≤ X) (h2 : X ≤ w) (h3 : 1 ≤ Y) (h4 : Y ≤ h) (hd : -4398046511104 ≤ d ∧ d ≤ 4398046511104) : -36037814056591360 ≤ addI f x1 y1 d v u X Y ∧ addI f x1 y1 d v u X Y ≤ 36037814056591360 := by
  have c := cols_bd hB hw hh (j := h) (i := 0) h1 h2 h3 h4
  rw [← colS_done hh h1 h3 h4] at c
  unfold addI addS
  split <;> split <;> omega
end Go.Proofs.Ytfnflgcalhiamaa
/- fen.Add. -/
set_option linter.unusedVariables false
set_option linter.unusedSimpArgs false
namespace Go.Proofs.Ytfnflgcalhiamaa
open Go.RowKit

/-- One cell's value has turned. -/
def FenAdded (b A w h : Nat) (f : Int → Int → Int) (x y : Nat) (d : Int) (W : World) (e : Ending) (W' : World) : Prop :=
  e = .returned (.int .i64 0) ∧ Mod (fun k => k = A) W W' ∧ FenAt W' b A w h (fenS (bump f x y d))
set_option maxHeartbeats 4000000 in
set_option maxRecDepth 100000 in
theorem fen_Add_ok (b A w h : Nat) (f : Int → Int → Int) (x y : Nat) (d : Int) (W : World) (H : FenAt W b A w h (fenS f)) (hB : FenB f w h) (hx : x < w) (hy : y < h) (hd : -4398046511104 ≤ d ∧ d ≤ 4398046511104) (hg : -1099511627776 ≤ f x y + d ∧ f x y + d ≤ 1099511627776) :
    Calls Try.prog 34 #[.pointer (some ⟨b, 0, none⟩), .agg #[.int .i64 (x : Int), .int .i64 (y : Int)], .int .i64 d] W (FenAdded b A w h f x y d W) := by
  have HBF := Lib.hid hB
  have hvb := hB x y (by omega) (by omega) (by omega) (by omega)
  have hAt := fun W' H => fen_at0 b A w h f x y W' H hB (by omega) (by omega) (by omega) (by omega)
  have hAW := H.lt.2
  obtain ⟨v0, hv0⟩ : ∃ v0, f x y = v0 := ⟨_, rfl⟩
  rw [hv0] at hvb hAt hg
  have g1 : wrap64 (1099511627776 - v0) = 1099511627776 - v0 := wrap64_id (by omega) (by omega)
  have g2 : wrap64 (-1099511627776 - v0) = -1099511627776 - v0 := wrap64_id (by omega) (by omega)
  have g3 : decide (1099511627776 - v0 < d) = false := decide_eq_false (by omega)
  have g4 : decide (d < -1099511627776 - v0) = false := decide_eq_false (by omega)
  have HAT0 := Lib.hid hAt
  have hw2 : w ≤ 1024 := by obtain ⟨N, cap, cs, HR⟩ := H; exact HR.w2
  have hh2 : h ≤ 1024 := by obtain ⟨N, cap, cs, HR⟩ := H; exact HR.h2
  have wx : wrap64 ((x : Int) + 1) = ((x + 1 : Nat) : Int) := by push_cast; exact wrap64_id (by omega) (by omega)
  have wy : wrap64 ((y : Int) + 1) = ((y + 1 : Nat) : Int) := by push_cast; exact wrap64_id (by omega) (by omega)
  clear hv0 hAt hB hvb
  go_enter Try.func34, Try.ntmps34
  go_wp2_with fail
  have n_B := (below_alloc1 W (.cells #[.int .i64 (x : Int), .int .i64 (y : Int)] 53))
  have n_0 : (W.alloc (.cells #[.int .i64 (x : Int), .int .i64 (y : Int)] 53)).heap[W.heap.size]? = some (.cells #[.int .i64 (x : Int), .int .i64 (y : Int)] 53) := (blk_new_at (W := W) (o := .cells #[.int .i64 (x : Int), .int .i64 (y : Int)] 53) (by simp))
  obtain ⟨Wa, hWa⟩ : ∃ Wa, (W.alloc (.cells #[.int .i64 (x : Int), .int .i64 (y : Int)] 53)) = Wa := ⟨_, rfl⟩
  rw [hWa] at n_0 n_B ⊢
  clear hWa
  refine (HAT0.out Wa (H.below n_B)).mono ?_
  rintro e Wb ⟨rfl, hb⟩
  replace H := (H.below n_B).below hb
  replace n_0 := below_blk hb n_0
  have hMb : Mod (fun k => k = A) W Wb := Mod.of_below (below_next n_B hb)
  have hnA : W.heap.size ≠ A := by omega
  clear hb n_B HAT0
  obtain ⟨N, cap, cs0, HR0⟩ := H
  have hcap := HR0.cap_le
  have hne := HR0.ne
  have hNb : N ≤ 1050625 := by
    rw [HR0.n_eq]
    exact Nat.mul_le_mul (show w + 1 ≤ 1025 by omega) (show h + 1 ≤ 1025 by omega)
  obtain ⟨C, hC⟩ : ∃ C, W.heap.size = C := ⟨_, rfl⟩
  rw [hC] at n_0 hnA ⊢
  have HMB := Lib.hid hMb
  have HR1 : Hid (FenRaw Wb b A N cap w h cs0 (addS f (x + 1) (y + 1) d (y + 1))) := HR0.congr (fun X Y a1 a2 a3 a4 => addS_start)
  clear hC hMb hAW HR0
  have i_0 := cells_w n_0 0 rfl
  have i_1 := cells_w n_0 1 rfl
  go_wp2_with fail
  try rw [wy]
  clear i_0 i_1 g1 g2 g3 g4 hg
  go_loopg [9] h (fun q v9 wr => ∃ (v : Nat) (cs : Array Value), Hid (h + 1 ≤ v + q ∧ 1 ≤ v) ∧ v9 = .int .i64 (v : Int) ∧ Mod (fun k => k = A) Wb wr ∧ Hid (Ch (y + 1) v) ∧ Hid (FenRaw wr b A N cap w h cs (addS f (x + 1) (y + 1) d v)))
  case atStart => exact ⟨y + 1, cs0, ⟨by omega, by omega⟩, rfl, Mod.refl _ _, ch_start _, HR1⟩
  case round =>
    clear HR1
    obtain ⟨v, cs, hv, rfl, hmod, HCh, HR⟩ := hrel
    obtain ⟨hvq, hv1⟩ := hv.out
    clear hv
    have hdr := HR.out.head
    have l_0 := cells_w hdr 0 rfl
    have l_1 := cells_w hdr 1 rfl
    by_cases hvh : v ≤ h
    rotate_left
    · have ht : decide (v ≤ h) = false := decide_eq_false hvh
      have ht2 : decide ((v : Int) ≤ (h : Int)) = false := decide_eq_false (by omega)
      go_wp2_with fail
      go_ret
      exact ⟨rfl, HMB.out.trans hmod (fun _ z => .inl z), N, cap, cs, HR.out.congr (fun X Y a1 a2 a3 a4 => addS_end (v := v) (h := h) (by omega) a1 (by omega) a3 a4 hh2)⟩
    · have ht : decide (v ≤ h) = true := decide_eq_true hvh
      have ht2 : decide ((v : Int) ≤ (h : Int)) = true := decide_eq_true (by omega)
      obtain ⟨mv, rfl⟩ : ∃ mv, gk = mv + 1 := ⟨gk - 1, by omega⟩
      have nr := hmod.blk n_0 hnA
      have i_0 := cells_w nr 0 rfl
      have i_1 := cells_w nr 1 rfl
      have HR1 : Hid (FenRaw wr b A N cap w h cs (addI f (x + 1) (y + 1) d v (x + 1))) := HR.out.congr (fun X Y a1 a2 a3 a4 => addI_start)
      go_wp2_with fail
      try rw [wx]
      clear i_0 i_1 l_0 l_1 hdr HR ht ht2 nr
      go_loopg [10] w (fun q v10 wi => ∃ (u : Nat) (cs : Array Value), Hid (w + 1 ≤ u + q ∧ 1 ≤ u) ∧ v10 = .int .i64 (u : Int) ∧ Mod (fun k => k = A) Wb wi ∧ Hid (Ch (x + 1) u) ∧ Hid (FenRaw wi b A N cap w h cs (addI f (x + 1) (y + 1) d v u)))
      case atStart => exact ⟨x + 1, cs, ⟨by omega, by omega⟩, rfl, hmod, ch_start _, HR1⟩
      case round =>
        clear HR1 hmod
        obtain ⟨u, cs, hu, rfl, hmod, HCu, HR⟩ := hrel
        obtain ⟨huq, hu1⟩ := hu.out
        clear hu
        have hdr := HR.out.head
        by_cases huw : u ≤ w
        rotate_left
        · have ht : decide (u ≤ w) = false := decide_eq_false huw
          have ht2 : decide ((u : Int) ≤ (w : Int)) = false := decide_eq_false (by omega)
          have lv := lb_bd hv1 (by omega)
          obtain ⟨v', hv'⟩ : ∃ v', v + lb v = v' := ⟨_, rfl⟩
          obtain ⟨wn, wu⟩ := up_go hv1 (by omega) hv'
          have HV' := Lib.hid hv'
          have hvv : v + 1 ≤ v' := by omega
          clear hv' lv
          have l_0 := cells_w hdr 0 rfl
          have l_1 := cells_w hdr 1 rfl
          go_wp2_with fail
          try rw [wu]
          go_roundg mv
          case measure => omega
          case rel =>
            refine ⟨v', cs, ⟨by omega, by omega⟩, rfl, hmod, by rw [← HV'.out]; exact ch_step hv1 HCh.out, HR.out.congr (fun X Y a1 a2 a3 a4 => ?_)⟩
            rw [← HV'.out]
            exact addI_end hv1 (by omega) HCh.out a2 (by omega) (by omega)
        · have ht : decide (u ≤ w) = true := decide_eq_true huw
          have ht2 : decide ((u : Int) ≤ (w : Int)) = true := decide_eq_true (by omega)
          obtain ⟨mu, rfl⟩ : ∃ mu, gk = mu + 1 := ⟨gk - 1, by omega⟩
          have lu := lb_bd hu1 (by omega)
          obtain ⟨u', hu'⟩ : ∃ u', u + lb u = u' := ⟨_, rfl⟩
          obtain ⟨wn, wu⟩ := up_go hu1 (by omega) hu'
          have HU' := Lib.hid hu'
          have huu : u + 1 ≤ u' := by omega
          clear hu' lu
          have hp1 := place_bd hw2 hh2 huw hvh
          rw [← HR.out.n_eq] at hp1
          have hat1 := fun W' (hdd : W'.heap[b]? = some (.cells #[.int .i64 (w : Int), .int .i64 (h : Int), .slice (some ⟨A, 0, none⟩) N cap] 77 (0, 0))) => fen_at_ok b w h u v _ W' hdd hw2 hh2 huw hvh
          have v1 := HR.out.val u v hu1 huw hv1 hvh
          have b1 := addI_bd (x1 := x + 1) (y1 := y + 1) (v := v) (u := u) HBF.out hw2 hh2 hu1 huw hv1 hvh hd
          have HST := Lib.hid (fun X Y (hX : X ≤ 1024) => addI_step (f := f) (y1 := y + 1) (v := v) (d := d) (X := X) (Y := Y) hu1 (by omega) HCu.out hX)
          rw [HU'.out] at HST
          obtain ⟨P1, hP1⟩ : ∃ P, v * (w + 1) + u = P := ⟨_, rfl⟩
          rw [hP1] at hat1 hp1 v1
          obtain ⟨s1, hs1⟩ : ∃ s, addI f (x + 1) (y + 1) d v u u v = s := ⟨_, rfl⟩
          rw [hs1] at v1 b1 HST
          have vS : IntKind.i64.wrap (s1 + d) = s1 + d := IntWalk.i64_in _ (by omega)
          have wS : wrap64 (s1 + d) = s1 + d := wrap64_id (by omega) (by omega)
          have n1 : (P1 : Int) < (N : Int) := by omega
          have c1 := (blk_cell HR.out.row P1).trans v1
          have q1 := fun dd os => cell_regrown c1 dd os
          have HP1 := Lib.hid hP1
          have HA1 := Lib.hid hat1
          have hs22 := v1
          clear hP1 hat1 hs1 b1 v1 c1 hp1
          have i_0 := cells_q hdr 0 rfl
          have i_1 := cells_q hdr 1 rfl
          have i_2 := cells_q hdr 2 rfl
          have l_0 := cells_w hdr 0 rfl
          have l_1 := cells_w hdr 1 rfl
          go_wp2_with fail
          refine wp_tail 13 (by kernel_rfl) (by kernel_rfl) ?_
          simp only [List.take_succ_cons, List.take_zero, List.drop_succ_cons, List.drop_zero]
          repeat (go_big_quiet_step ((first | (go_at_call 27; with_reducible exact Calls.quiet (HA1.out _ (below_blk (below_regrown _ _ _) hdr))))))
          refine wpQuiet_nil ?_
          intro w7 hb7
          have hM7 := hmod.then_below hb7
          have HR7 := Lib.hid (FenRaw.below HR.out hb7)
          clear i_0 i_1 i_2 l_0 l_1 q1 HA1 hb7 HR hmod hdr vS
          have c1 := cells_w HR7.out.row P1 hs22
          have z1 := blk_frozen HR7.out.row P1
          go_wp2_with fail
          try rw [wu]
          go_roundg mu
          case measure => omega
          case rel =>
            refine ⟨u', cs.setIfInBounds P1 (.int .i64 (s1 + d)), ⟨by omega, by omega⟩, rfl, hM7.setCell (p := ⟨A, P1, none⟩) (.inl rfl) _, by rw [← HU'.out]; exact ch_step hu1 HCu.out, ?_⟩
            exact (FenRaw.put HR7.out (x := u) (y := v) (by omega) (by omega) HP1.out (s1 + d)).congr (fun X Y a1 a2 a3 a4 => HST.out X Y (by omega))
end Go.Proofs.Ytfnflgcalhiamaa

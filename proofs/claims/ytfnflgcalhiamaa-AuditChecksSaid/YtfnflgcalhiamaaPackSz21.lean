/- Texts of this claim, joined: Checks38. -/
import Derived.Test.YtfnflgcalhiamaaPackSz17
import Derived.Test.YtfnflgcalhiamaaPackSz20
/- hachurelaw38.AuditChecks: the walk. -/
set_option linter.unusedVariables false
set_option linter.unusedSimpArgs false
namespace Go.Proofs.Ytfnflgcalhiamaa
open Go.RowKit

theorem tight_of {w h : Nat} {u : Nat → Int} (hu : ∀ j, j < w * h → -2147483648 ≤ u j ∧ u j ≤ 2147483647) : Tight (fun x y => u ((y * (w : Int) + x).toNat)) w h := by
  intro x y a1 a2 a3 a4
  obtain ⟨X, rfl⟩ : ∃ X : Nat, x = X := ⟨x.toNat, by omega⟩
  obtain ⟨Y, rfl⟩ : ∃ Y : Nat, y = Y := ⟨y.toNat, by omega⟩
  have e : ((Y : Int) * (w : Int) + (X : Int)).toNat = Y * w + X := by
    have : (Y : Int) * (w : Int) + (X : Int) = ((Y * w + X : Nat) : Int) := by push_cast; rfl
    rw [this]; exact Int.toNat_natCast _
  have hm := Nat.mul_le_mul_right w (show Y + 1 ≤ h by omega)
  rw [Nat.add_mul, Nat.mul_comm h w] at hm
  have := hu (Y * w + X) (by omega)
  show _ ≤ u _ ∧ u _ ≤ _
  rw [e]
  omega

set_option maxHeartbeats 4000000 in
set_option maxRecDepth 100000 in
theorem checks38_any (w h : Int) (v1 v2 v3 : Value) (n1 n2 n3 : Nat) (u1 u2 u3 : Nat → Int) (W : World) (hv1 : ArgAt W v1 n1 u1) (hv2 : ArgAt W v2 n2 u2) (hv3 : ArgAt W v3 n3 u3) :
    Calls Try.prog 3 #[.int .i64 w, .int .i64 h, v1, v2, v3] W fun e W' => e = .returned (.bool true) ∧ Below W.heap.size W W' := by
  have hw1 := hv1
  have hw2 := hv2
  have hw3 := hv3
  obtain ⟨o1, c1, rfl, t1, r1⟩ := hw1
  obtain ⟨o2, c2, rfl, t2, r2⟩ := hw2
  obtain ⟨o3, c3, rfl, t3, r3⟩ := hw3
  go_enter Try.func3, Try.ntmps3
  go_wp2_with fail
  refine (awake38_ok _).mono ?_
  rintro e w2 ⟨rfl, hb⟩
  have hB := hb
  clear hb
  go_wp2_with fail
  refine (land_any w h 1000 _ n1 u1 w2 (hv1.below hB)).mono ?_
  rintro e w3 ⟨hb, ⟨hl1, rfl⟩ | ⟨_, rfl⟩⟩
  rotate_left
  · replace hB := below_next hB hb
    go_wp2_with fail
    refine (land_any w h 1000 _ n2 u2 _ (hv2.below (below_alloc hB _))).mono ?_
    rintro e w4 ⟨hb4, ⟨_, rfl⟩ | ⟨_, rfl⟩⟩
    all_goals
      go_wp2_with fail
      refine (land_any w h 1000 _ n3 u3 _ (hv3.below (below_alloc (below_next (below_alloc hB _) hb4) _))).mono ?_
      rintro e w5 ⟨hb5, ⟨_, rfl⟩ | ⟨_, rfl⟩⟩
      all_goals
        go_wp2_with fail
        go_ret
        exact ⟨rfl, below_alloc (below_next (below_alloc (below_next (below_alloc hB _) hb4) _) hb5) _⟩
  replace hB := below_next hB hb
  obtain ⟨d1, d2, d3, d4, d5, d6, d7⟩ := hl1
  have hm1 := Int.mul_le_mul d1 d2 (by omega) (by omega)
  obtain ⟨ad1, rfl, R1⟩ := r1 (by omega)
  obtain ⟨wn, rfl⟩ : ∃ wn : Nat, w = wn := ⟨w.toNat, by omega⟩
  obtain ⟨hn, rfl⟩ : ∃ hn : Nat, h = hn := ⟨h.toNat, by omega⟩
  have cN : ((wn * hn : Nat) : Int) = wn * hn := by push_cast; rfl
  have e1 : n1 = wn * hn := by omega
  subst e1
  have HM1 := Lib.hid (fun j hj => mayB_iff.1 (d7 j hj))
  have HD := Lib.hid (And.intro d1 (And.intro d3 (And.intro d2 d4)))
  have HN1 : Hid (1 ≤ wn * hn ∧ wn * hn ≤ 1000) := ⟨by omega, by omega⟩
  clear hb hv1 d7 d6 d5 hm1 t1 d1 d2 d3 d4 cN
  go_wp2_with fail
  have a_B := (below_alloc1 w3 (.cells #[.int .i64 (wn : Int), .int .i64 (hn : Int), .slice (some ad1) (wn * hn) c1] 25))
  have a_0 : (w3.alloc (.cells #[.int .i64 (wn : Int), .int .i64 (hn : Int), .slice (some ad1) (wn * hn) c1] 25)).heap[w3.heap.size]? = some (.cells #[.int .i64 (wn : Int), .int .i64 (hn : Int), .slice (some ad1) (wn * hn) c1] 25) := (blk_new_at (W := w3) (o := .cells #[.int .i64 (wn : Int), .int .i64 (hn : Int), .slice (some ad1) (wn * hn) c1] 25) (by simp))
  obtain ⟨w3a, hw3a⟩ : ∃ w3a, (w3.alloc (.cells #[.int .i64 (wn : Int), .int .i64 (hn : Int), .slice (some ad1) (wn * hn) c1] 25)) = w3a := ⟨_, rfl⟩
  rw [hw3a] at a_0 a_B ⊢
  clear hw3a
  replace hB := below_next hB a_B
  refine (land_any wn hn 1000 _ n2 u2 w3a (hv2.below hB)).mono ?_
  rintro e w4 ⟨hb, ⟨hl2, rfl⟩ | ⟨_, rfl⟩⟩
  rotate_left
  · replace hB := below_next hB hb
    go_wp2_with fail
    refine (land_any wn hn 1000 _ n3 u3 _ (hv3.below (below_alloc hB _))).mono ?_
    rintro e w5 ⟨hb5, ⟨_, rfl⟩ | ⟨_, rfl⟩⟩
    all_goals
      go_wp2_with fail
      go_ret
      exact ⟨rfl, below_alloc (below_next (below_alloc hB _) hb5) _⟩
  have m11 := below_blk hb a_0
  replace hB := below_next hB hb
  clear a_0 a_B hb
  obtain ⟨d1, d2, d3, d4, d5, d6, d7⟩ := hl2
  have e2 : n2 = wn * hn := by
    have cN : ((wn * hn : Nat) : Int) = wn * hn := by push_cast; rfl
    omega
  subst e2
  obtain ⟨ad2, rfl, R2⟩ := r2 HN1.out.1
  have HM2 := Lib.hid (fun j hj => mayB_iff.1 (d7 j hj))
  clear hv2 d7 d6 d5 t2 d1 d2 d3 d4
  go_wp2_with fail
  have a_B := (below_alloc1 w4 (.cells #[.int .i64 (wn : Int), .int .i64 (hn : Int), .slice (some ad2) (wn * hn) c2] 25))
  have a_0 : (w4.alloc (.cells #[.int .i64 (wn : Int), .int .i64 (hn : Int), .slice (some ad2) (wn * hn) c2] 25)).heap[w4.heap.size]? = some (.cells #[.int .i64 (wn : Int), .int .i64 (hn : Int), .slice (some ad2) (wn * hn) c2] 25) := (blk_new_at (W := w4) (o := .cells #[.int .i64 (wn : Int), .int .i64 (hn : Int), .slice (some ad2) (wn * hn) c2] 25) (by simp))
  obtain ⟨w4a, hw4a⟩ : ∃ w4a, (w4.alloc (.cells #[.int .i64 (wn : Int), .int .i64 (hn : Int), .slice (some ad2) (wn * hn) c2] 25)) = w4a := ⟨_, rfl⟩
  rw [hw4a] at a_0 a_B ⊢
  clear hw4a
  replace hB := below_next hB a_B
  replace m11 := below_blk a_B m11
  refine (land_any wn hn 1000 _ n3 u3 w4a (hv3.below hB)).mono ?_
  rintro e w5 ⟨hb, ⟨hl3, rfl⟩ | ⟨_, rfl⟩⟩
  rotate_left
  · replace hB := below_next hB hb
    go_wp2_with fail
    go_ret
    exact ⟨rfl, below_alloc hB _⟩
  replace m11 := below_blk hb m11
  have m13 := below_blk hb a_0
  replace hB := below_next hB hb
  clear a_0 a_B hb
  obtain ⟨d1, d2, d3, d4, d5, d6, d7⟩ := hl3
  have e3 : n3 = wn * hn := by
    have cN : ((wn * hn : Nat) : Int) = wn * hn := by push_cast; rfl
    omega
  subst e3
  obtain ⟨ad3, rfl, R3⟩ := r3 HN1.out.1
  have HM3 := Lib.hid (fun j hj => mayB_iff.1 (d7 j hj))
  clear hv3 d7 d6 d5 t3 d1 d2 d3 d4
  go_wp2_with fail
  have a_B := (below_alloc1 w5 (.cells #[.int .i64 (wn : Int), .int .i64 (hn : Int), .slice (some ad3) (wn * hn) c3] 25))
  have a_0 : (w5.alloc (.cells #[.int .i64 (wn : Int), .int .i64 (hn : Int), .slice (some ad3) (wn * hn) c3] 25)).heap[w5.heap.size]? = some (.cells #[.int .i64 (wn : Int), .int .i64 (hn : Int), .slice (some ad3) (wn * hn) c3] 25) := (blk_new_at (W := w5) (o := .cells #[.int .i64 (wn : Int), .int .i64 (hn : Int), .slice (some ad3) (wn * hn) c3] 25) (by simp))
  obtain ⟨w5a, hw5a⟩ : ∃ w5a, (w5.alloc (.cells #[.int .i64 (wn : Int), .int .i64 (hn : Int), .slice (some ad3) (wn * hn) c3] 25)) = w5a := ⟨_, rfl⟩
  rw [hw5a] at a_0 a_B ⊢
  clear hw5a
  replace hB := below_next hB a_B
  replace m11 := below_blk a_B m11
  replace m13 := below_blk a_B m13
  have m15 := a_0
  clear a_0 a_B
  obtain ⟨d1, d3, d2, d4⟩ := HD.out
  refine (made_ok wn hn w5a (by omega) (by omega) (by omega) (by omega) ad1 c1 u1 HM1.out (R1.below hB)).mono ?_
  rintro e w7 ⟨ga, Fa, rfl, hb, hFa, HGa⟩
  replace m11 := below_blk hb m11
  replace m13 := below_blk hb m13
  replace m15 := below_blk hb m15
  replace hB := below_next hB hb
  clear hb
  go_wp2_with fail
  refine (made_ok wn hn w7 (by omega) (by omega) (by omega) (by omega) ad2 c2 u2 HM2.out (R2.below hB)).mono ?_
  rintro e w8 ⟨gb, Fb, rfl, hb, hFb, HGb⟩
  replace m11 := below_blk hb m11
  replace m13 := below_blk hb m13
  replace m15 := below_blk hb m15
  replace HGa := HGa.below hb
  replace hB := below_next hB hb
  clear hb
  go_wp2_with fail
  refine (made_ok wn hn w8 (by omega) (by omega) (by omega) (by omega) ad3 c3 u3 HM3.out (R3.below hB)).mono ?_
  rintro e w9 ⟨gc, Fc, rfl, hb, hFc, HGc⟩
  replace m11 := below_blk hb m11
  replace m13 := below_blk hb m13
  replace m15 := below_blk hb m15
  replace HGa := HGa.below hb
  replace HGb := HGb.below hb
  replace hB := below_next hB hb
  clear hb
  go_wp2_with fail
  refine (build_ok gb Fb wn hn _ w9 HGb).mono ?_
  rintro e w10 ⟨p, Fp, rfl, hb, hFp, HP⟩
  have hs910 := hb.size
  have hFlt : ∀ k, Fa k → k < w9.heap.size := fun k hk => HGa.lt k hk
  have hm11 : w3.heap.size < w9.heap.size := blk_lt m11
  have hW9 := hB.size
  replace m11 := below_blk hb m11
  replace m13 := below_blk hb m13
  replace m15 := below_blk hb m15
  replace HGa := HGa.below hb
  replace HGc := HGc.below hb
  replace hB := below_next hB hb
  clear hb
  go_wp2_with fail
  refine (fen_Of_ok gc Fc wn hn _ w10 HGc (fenB_of HM3.out)).mono ?_
  rintro e w11 ⟨b, A, rfl, hb, hb1, hA1, HF⟩
  have hPlt : ∀ k, Fp k → k < w10.heap.size := fun k hk => by
    obtain ⟨A', cap', ps', s', HR'⟩ := HP
    exact HR'.lt k hk
  replace m11 := below_blk hb m11
  replace m13 := below_blk hb m13
  replace m15 := below_blk hb m15
  replace HGa := HGa.below hb
  replace HP := HP.below hb
  replace hB := below_next hB hb
  clear hb
  have T1 := Lib.hid (tight_of HM1.out)
  have T3 := Lib.hid (tight_of HM3.out)
  clear HGb HGc hFb hFc HM1 HM2 HM3
  have i_0 := cells_w m11 0 rfl
  have i_1 := cells_w m11 1 rfl
  have i_2 := cells_w m11 2 rfl
  have k_0 := cells_w m13 0 rfl
  have k_1 := cells_w m13 1 rfl
  have k_2 := cells_w m13 2 rfl
  have l_0 := cells_w m15 0 rfl
  have l_1 := cells_w m15 1 rfl
  have l_2 := cells_w m15 2 rfl
  go_wp2_with fail
  refine (ref38_ok wn hn c1 c2 c3 ad1 ad2 ad3 u1 u2 u3 w11 (by omega) (by omega) (by omega) (by omega) (R1.below hB) (R2.below hB) (R3.below hB)).mono ?_
  rintro e w12 ⟨vw, basew, rfl, hbw, hown1, hb⟩
  rw [cnt_congr _ (fun i _ => (off_land (w := wn) u1 u2 (by omega)).symm), cnt_congr _ (fun i _ => (off_land (w := wn) u1 u3 (by omega)).symm), fnd_congr 1 wn _ (fun i _ => (off_land (w := wn) u1 u2 (by omega)).symm), fnd_congr 2 wn _ (fun i _ => (off_land (w := wn) u1 u3 (by omega)).symm)] at hown1
  replace m11 := below_blk hb m11
  replace HGa := HGa.below hb
  replace HP := HP.below hb
  replace HF := HF.below hb
  replace hB := below_next hB hb
  clear hb
  have q1 : ∀ k, Fa k → ¬ Fp k := fun k hk h2 => by have := hFlt k hk; have := hFp k h2; omega
  have q2 : ¬ Fa A := fun h2 => by have := hFlt A h2; omega
  have q3 : ¬ Fp A := fun h2 => by have := hPlt A h2; omega
  have q4 : ¬ Fp b := fun h2 => by have := hPlt b h2; omega
  have q5 : ∀ k, Fp k ∨ k = A → W.heap.size ≤ k := fun k hk => by
    have hWs := hW9
    rcases hk with z | z
    · have := hFp k z; omega
    · omega
  have q6 : ¬ (Fp w3.heap.size ∨ w3.heap.size = A) := fun z => by
    rcases z with z | z
    · have := hFp _ z; omega
    · omega
  obtain ⟨K, X, Y, hRep, _, _, _⟩ := fnd_both (offD (fun (x y : Int) => u1 ((y * (wn : Int) + x).toNat)) (fun (x y : Int) => u2 ((y * (wn : Int) + x).toNat)) wn) (offD (fun (x y : Int) => u1 ((y * (wn : Int) + x).toNat)) (fun (x y : Int) => u3 ((y * (wn : Int) + x).toNat)) wn) wn (wn * hn)
  have hcnt1 := cnt_le (offD (fun (x y : Int) => u1 ((y * (wn : Int) + x).toNat)) (fun (x y : Int) => u2 ((y * (wn : Int) + x).toNat)) wn) (wn * hn)
  have hcnt2 := cnt_le (offD (fun (x y : Int) => u1 ((y * (wn : Int) + x).toNat)) (fun (x y : Int) => u3 ((y * (wn : Int) + x).toNat)) wn) (wn * hn)
  obtain ⟨oa, ca, ka, rfl, hoa, hca⟩ := own_rep hown1 hRep
  clear i_0 i_1 i_2 k_0 k_1 k_2 l_0 l_1 l_2 m13 m15 hFlt hFp hPlt
  go_wp2_with fail
  refine (audit_Check_ok ga Fa wn hn _ _ _ p Fp b A w12 HGa HP HF T3.out.fen).mono ?_
  rintro e w13 ⟨vl, basel, rfl, hbl, hown2, hb⟩
  obtain ⟨ob, cb, kb, rfl, hob, hcb⟩ := own_rep hown2 hRep
  replace hca := fun i hi => And.intro (below_cell hb (hca i hi).1) (And.intro (below_cell hb (hca i hi).2.1) (below_cell hb (hca i hi).2.2))
  replace m11 := below_blk hb m11
  replace HGa := HGa.below hb
  replace HP := HP.below hb
  replace HF := HF.below hb
  replace hB := below_next hB hb
  clear hb
  have HSAME := Lib.hid (same38_rep _ cb ca kb ka ob oa K X Y w13 (by have := HN1.out; omega) (fun z => (hob z).1) (fun z => (hoa z).1) hcb hca)
  clear hca hcb hoa hob hown1 hown2 hRep hcnt1 hcnt2
  go_wp2_with fail
  refine HSAME.out.mono ?_
  rintro e w14 ⟨rfl, hb⟩
  replace m11 := below_blk hb m11
  replace HGa := HGa.below hb
  replace HP := HP.below hb
  replace HF := HF.below hb
  replace hB := below_next hB hb
  clear hb
  clear HSAME
  go_wp2_with fail
  refine (heal_ok ga Fa wn hn _ _ _ p Fp b A w14 HGa HP HF T1.out T3.out q1 q2 q3 q4).mono ?_
  rintro e w15 ⟨rfl, hM, HP5, HF5⟩
  replace HGa := HGa.mod hM (fun k hk z => by rcases z with z | z; exact q1 k hk z; exact q2 (z ▸ hk))
  replace m11 := hM.blk m11 q6
  replace hB := hB.trans (hM.below hB.size q5)
  clear HP HF hM
  go_wp2_with fail
  refine (audit_Check_ok ga Fa wn hn _ _ _ p Fp b A w15 HGa HP5 HF5 T1.out.fen).mono ?_
  rintro e w16 ⟨vz, basez, rfl, hbz, hown3, hb⟩
  rw [cnt_self, Nat.add_zero] at hown3
  obtain ⟨oz, cz, kz, rfl, _, _⟩ := own_rep (K := K) (X := X) (Y := Y) hown3 ⟨hown3.1, fun i hi => by omega⟩
  replace HP5 := HP5.below hb
  replace m11 := below_blk hb m11
  replace HGa := HGa.below hb
  replace hB := below_next hB hb
  clear hb HF5 hown3
  have i_0 := cells_w m11 0 rfl
  have i_1 := cells_w m11 1 rfl
  have i_2 := cells_w m11 2 rfl
  go_wp2_with fail
  refine (over_ok p Fp ad1 c1 (wn * hn) u1 wn hn w16 HP5 (by push_cast; rfl) (R1.below hB)).mono ?_
  rintro e w17 ⟨rfl, hb⟩
  replace m11 := below_blk hb m11
  replace HGa := HGa.below hb
  replace hB := below_next hB hb
  clear hb i_0 i_1 i_2 HP5
  have i_0 := cells_w m11 0 rfl
  have i_1 := cells_w m11 1 rfl
  have i_2 := cells_w m11 2 rfl
  go_wp2_with fail
  refine (is09_ok ga Fa wn hn _ ad1 (wn * hn) c1 w17 HGa (by push_cast; rfl) ?_).mono ?_
  · intro i hi
    have z := (R1.below hB) i hi
    rw [z]
    have e := land_at (w := wn) (i := i) u1 (by omega)
    unfold lin
    have e2 : (i : Int) / (wn : Int) = ((i / wn : Nat) : Int) := by push_cast; rfl
    have e3 : (i : Int) % (wn : Int) = ((i % wn : Nat) : Int) := by push_cast; rfl
    dsimp only
    rw [e2, e3, e]
  · rintro e w18 ⟨rfl, hb⟩
    replace hB := below_next hB hb
    clear hb i_0 i_1 i_2
    go_wp2_with fail
    go_ret
    exact ⟨rfl, hB⟩
end Go.Proofs.Ytfnflgcalhiamaa

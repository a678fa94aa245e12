/- Texts of this claim, joined: Values09, Span16, TierSpan, Floor. -/
import Derived.Test.YtgofkgmhpnkchaaDownStepsPack1
import Derived.Test.YtgofkgmhpnkchaaDownStepsPack5
import Derived.Test.YtgofkgmhpnkchaaDownStepsPack6
/- hachureref09.Values, of a rectangle that is in the model. -/
set_option linter.unusedVariables false
set_option linter.unusedSimpArgs false
namespace Go.Proofs.Ytgofkgmhpnkchaa
open Go.RowKit

set_option maxHeartbeats 2000000 in
set_option maxRecDepth 100000 in
theorem ref09_Values_ok (ad : Addr) (cap0 N : Nat) (u : Nat → Int) (w h x0 y0 x1 y1 : Int) (W : World) (w1 : 1 ≤ w) (w2 : w ≤ 1024) (h1 : 1 ≤ h) (h2 : h ≤ 1024) (hN : (N : Int) = w * h) (hrow : RowAt W ad N u)
    (a0 : 0 ≤ x0) (a1 : x0 ≤ x1) (a2 : x1 < w) (a3 : 0 ≤ y0) (a4 : y0 ≤ y1) (a5 : y1 < h) (rw rh : Nat) (hrw : (rw : Int) = x1 - x0 + 1) (hrh : (rh : Int) = y1 - y0 + 1) :
    Calls Try.prog 47 #[.agg #[.int .i64 w, .int .i64 h, .slice (some ad) N cap0], .agg #[.int .i64 x0, .int .i64 y0, .int .i64 x1, .int .i64 y1]] W (ValuesOut W (rw * rh) (rowG (fun x y => u ((y * w + x).toNat)) x0 y0 rw)) := by
  go_enter Try.func47, Try.ntmps47
  go_wp2_with fail
  have n0 := below_blk (below_alloc1 _ (.cells #[.int .i64 x0, .int .i64 y0, .int .i64 x1, .int .i64 y1] 45)) (blk_new W (.cells #[.int .i64 w, .int .i64 h, .slice (some ad) N cap0] 27))
  have n1 := blk_new (W.alloc (.cells #[.int .i64 w, .int .i64 h, .slice (some ad) N cap0] 27)) (.cells #[.int .i64 x0, .int .i64 y0, .int .i64 x1, .int .i64 y1] 45)
  rw [alloc_size] at n1
  have hB := below_alloc (below_alloc1 W (.cells #[.int .i64 w, .int .i64 h, .slice (some ad) N cap0] 27)) (.cells #[.int .i64 x0, .int .i64 y0, .int .i64 x1, .int .i64 y1] 45)
  obtain ⟨W2, hW2⟩ : ∃ W2, ((W.alloc (.cells #[.int .i64 w, .int .i64 h, .slice (some ad) N cap0] 27)).alloc (.cells #[.int .i64 x0, .int .i64 y0, .int .i64 x1, .int .i64 y1] 45)) = W2 := ⟨_, rfl⟩
  rw [hW2] at n0 n1 hB ⊢
  have hrow2 := hrow.below hB
  clear hW2 hrow
  refine (within07_any x0 y0 x1 y1 w h W2 w1 w2 h1 h2).mono ?_
  simp only [withinC_ok.2 ⟨a0, a1, a2, a3, a4, a5⟩]
  rintro e w3 ⟨rfl, hb⟩
  replace n0 := below_blk hb n0
  replace n1 := below_blk hb n1
  replace hrow2 := hrow2.below hb
  replace hB := below_next hB hb
  clear hb
  have j_0 := cells_w n1 0 rfl
  have j_1 := cells_w n1 1 rfl
  have j_2 := cells_w n1 2 rfl
  have j_3 := cells_w n1 3 rfl
  have i_0 := cells_w n0 0 rfl
  have i_1 := cells_w n0 1 rfl
  have i_2 := cells_w n0 2 rfl
  have ja_1 := fun o => cells_w (below_blk (below_alloc1 w3 o) n1) 1 rfl
  go_wp2_with fail
  have hown : (w3.alloc (.cells #[] 2)).ownsRow w3.heap.size 2 1 (.slice (some ⟨w3.heap.size, 0, none⟩) 0 0) 0 [] :=
    ⟨rfl, .inr ⟨w3.heap.size, 0, #[], rfl, Nat.le_refl _, blk_new _ _, Nat.le_refl _, by simp [maxLen], rfl, rfl⟩⟩
  have hbs := hB.size
  have hb := below_alloc1 w3 (.cells #[] 2)
  have Hrw := Lib.hid hrw
  have Hrh := Lib.hid hrh
  have HN := Lib.hid hN
  have hm := Nat.mul_le_mul (show rw ≤ 1024 by omega) (show rh ≤ 1024 by omega)
  have Hrow := Lib.hid hrow2
  clear hrw hrh hN hrow2 j_0 j_1 j_2 j_3 i_0 i_1 i_2 ja_1
  go_loopg [7, 8] rh (fun k v7 v8 wr => ∃ j : Nat, Hid (j + k = rh) ∧ v8 = .int .i64 (y0 + (j : Int)) ∧ wr.ownsRow w3.heap.size 2 1 v7 (rw * j) (vals (rowG (fun x y => u ((y * w + x).toNat)) x0 y0 rw) (rw * j)) ∧ Below w3.heap.size w3 wr)
  case atStart => exact ⟨0, Nat.zero_add _, by simp, by simpa [vals] using hown, hb⟩
  case round =>
    clear hown hb
    obtain ⟨j, hj, rfl, hown, hbr⟩ := hrel
    have cr := below_blk hbr n1
    have k_0 := cells_w cr 0 rfl
    have k_1 := cells_w cr 1 rfl
    have k_2 := cells_w cr 2 rfl
    have k_3 := cells_w cr 3 rfl
    cases gk with
    | zero =>
      have ht : decide (y0 + (j : Int) ≤ y1) = false := decide_eq_false (by have := Hrh.out; have := hj.out; omega)
      go_wp2_with fail
      go_ret2
      have ej : j = rh := hj.out
      subst ej
      obtain ⟨k, cap, cs, hv, hc1, hc2, hc3, hc4⟩ := own_row hown (by have := Nat.mul_le_mul (show 1 ≤ rw by have := Hrw.out; omega) (show 1 ≤ j by have := Hrh.out; omega); omega)
      subst hv
      exact ⟨k, cap, cs, rfl, hc1, by omega, hB.trans (hbr.mono hbs), hc3, fun i hi => hc4 i _ (vals_get _ hi)⟩
    | succ m =>
      have ht : decide (y0 + (j : Int) ≤ y1) = true := decide_eq_true (by have := Hrh.out; have := hj.out; omega)
      have hj' : j + 1 ≤ rh := by have := hj.out; omega
      have hyb : y0 + (j : Int) < h := by have := Hrh.out; omega
      go_wp2_with fail
      clear cr k_0 k_1 k_2 k_3
      go_loopg [7, 9] rw (fun k v7 v9 wi => ∃ i : Nat, Hid (i + k = rw) ∧ v9 = .int .i64 (x0 + (i : Int)) ∧ wi.ownsRow w3.heap.size 2 1 v7 (rw * j + i) (vals (rowG (fun x y => u ((y * w + x).toNat)) x0 y0 rw) (rw * j + i)) ∧ Below w3.heap.size w3 wi)
      case atStart => exact ⟨0, Nat.zero_add _, by simp, hown, hbr⟩
      case round =>
        clear hown hbr
        obtain ⟨i, hi, rfl, hown, hbr⟩ := hrel
        have cr := below_blk hbr n1
        have c0 := below_blk hbr n0
        have k_0 := cells_w cr 0 rfl
        have k_1 := cells_w cr 1 rfl
        have k_2 := cells_w cr 2 rfl
        have k_3 := cells_w cr 3 rfl
        have l_0 := cells_w c0 0 rfl
        have l_1 := cells_w c0 1 rfl
        have l_2 := cells_w c0 2 rfl
        cases gk with
        | zero =>
          have ht2 : decide (x0 + (i : Int) ≤ x1) = false := decide_eq_false (by have := Hrw.out; have := hi.out; omega)
          go_wp2_with fail
          go_roundg m
          case measure => omega
          case rel =>
            have e : i = rw := hi.out
            subst e
            exact ⟨j + 1, by have := hj.out; exact (show j + 1 + m = _ by omega), congrArg (Value.int .i64) (by push_cast; omega), hown, hbr⟩
        | succ m2 =>
          have hi' : i + 1 ≤ rw := by have := hi.out; omega
          have ht2 : decide (x0 + (i : Int) ≤ x1) = true := decide_eq_true (by have := Hrw.out; omega)
          have hxb : x0 + (i : Int) < w := by have := Hrw.out; omega
          have hix := idx_lt (x := x0 + (i : Int)) (y := y0 + (j : Int)) (w := w) (h := h) (by omega) hxb (by omega) hyb
          have hym := mul_bd (a := y0 + (j : Int)) (b := w) (A := 1024) (B := 1024) (by omega) (by omega) (by omega) (by omega)
          have hNN := mul_bd (a := w) (b := h) (A := 1024) (B := 1024) (by omega) (by omega) (by omega) (by omega)
          have hlt : ((y0 + (j : Int)) * w + (x0 + (i : Int))).toNat < N := by have := HN.out; omega
          have hc := (Hrow.out.below hbr) _ hlt
          have wr1 : wrap64 ((y0 + (j : Int)) * w) = (y0 + (j : Int)) * w := wrap64_id (by omega) (by omega)
          have wr2 : wrap64 ((y0 + (j : Int)) * w + (x0 + (i : Int))) = (y0 + (j : Int)) * w + (x0 + (i : Int)) := wrap64_id (by omega) (by omega)
          have hsz := hbr.size
          have hlen : rw * j + i < rw * rh := by
            have := Nat.mul_le_mul_left rw hj'
            rw [Nat.mul_add] at this
            omega
          have hI1 : 0 ≤ (y0 + (j : Int)) * w + (x0 + (i : Int)) := hix.1
          have hI2 : (y0 + (j : Int)) * w + (x0 + (i : Int)) < (N : Int) := by have := HN.out; omega
          go_wp2_with (at_builtin; refine append_el w3.heap.size rfl (.tmp 36) (.tmp 47) 22 2 _ 1 8 rfl Try.underlying22 info_int64 rfl (by omega) _ _ _ [.int .i64 (u (((y0 + (j : Int)) * w + (x0 + (i : Int))).toNat))] rfl _ rfl rfl rfl ?_ hown hsz (by omega) (by omega) ?_)
          · intro u hu; simp at hu; subst hu; rfl
          · intro v1 w8 hown2 hb2
            have hbr8 := hbr.trans hb2
            clear cr k_0 k_1 k_2 k_3
            have cr := below_blk hbr8 n1
            have k_0 := cells_w cr 0 rfl
            have k_1 := cells_w cr 1 rfl
            have k_2 := cells_w cr 2 rfl
            have k_3 := cells_w cr 3 rfl
            go_wp2_with fail
            go_roundg m2
            case measure => omega
            case rel =>
              refine ⟨i + 1, by have := hi.out; exact (show i + 1 + m2 = _ by omega), congrArg (Value.int .i64) (by push_cast; omega), ?_, hbr8⟩
              have e2 := vals_succ (rowG (fun x y => u ((y * w + x).toNat)) x0 y0 rw) (rw * j + i)
              rw [rowG_at _ x0 y0 (show i < rw by omega)] at e2
              rw [show rw * j + (i + 1) = rw * j + i + 1 from rfl, e2]
              exact hown2
end Go.Proofs.Ytgofkgmhpnkchaa
/- hachureref16.Span. -/
set_option linter.unusedVariables false
set_option linter.unusedSimpArgs false
namespace Go.Proofs.Ytgofkgmhpnkchaa
open Go.RowKit

theorem pow_bd {k : Nat} (hk : k ≤ 10) : (1 : Int) ≤ 2 ^ k ∧ (2 : Int) ^ k ≤ 1024 := by
  have h1 := Nat.pow_le_pow_right (n := 2) (by omega) hk
  have h2 := Nat.pow_le_pow_right (n := 2) (by omega) (Nat.zero_le k)
  have e : ((2 ^ k : Nat) : Int) = 2 ^ k := by push_cast; rfl
  omega
theorem span_bd {w x : Int} {k : Nat} (a1 : 0 ≤ x) (a2 : x < lw w k) : 0 ≤ x * 2 ^ k ∧ x * 2 ^ k ≤ w - 1 := by
  have p := pow2_pos k
  exact ⟨Int.mul_nonneg a1 (Int.le_of_lt p), (Int.le_ediv_iff_mul_le p).1 (by unfold lw at a2; omega)⟩

set_option maxHeartbeats 2000000 in
set_option maxRecDepth 100000 in
theorem ref16_Span_ok (w h x y : Int) (k : Nat) (v : Value) (W : World) (w1 : 1 ≤ w) (w2 : w ≤ 1024) (h1 : 1 ≤ h) (h2 : h ≤ 1024) (hk : k ≤ 10) (a1 : 0 ≤ x) (a2 : x < lw w k) (a3 : 0 ≤ y) (a4 : y < lw h k) (hv : ∃ o n c, v = .slice o n c) :
    Calls Try.prog 48 #[.agg #[.int .i64 w, .int .i64 h, v], .int .i64 k, .agg #[.int .i64 x, .int .i64 y]] W
      fun e W' => e = .returned (.agg #[.int .i64 (x * 2 ^ k), .int .i64 (y * 2 ^ k), .int .i64 (imin ((x + 1) * 2 ^ k - 1) (w - 1)), .int .i64 (imin ((y + 1) * 2 ^ k - 1) (h - 1))]) ∧ Below W.heap.size W W' := by
  obtain ⟨o, n, c, rfl⟩ := hv
  have bx := span_bd a1 a2
  have hby := span_bd a3 a4
  have bS := pow_bd hk
  have lx := lw_bd w1 k
  have ly := lw_bd h1 k
  have HB := Lib.hid (And.intro bx (And.intro hby (And.intro bS (And.intro lx ly))))
  clear bx hby bS lx ly
  go_enter Try.func48, Try.ntmps48
  go_wp2_with fail
  have n0 := below_blk (below_alloc (below_alloc1 (W.alloc (.cells #[.int .i64 w, .int .i64 h, .slice o n c] 27)) (.cells #[.int .i64 x, .int .i64 y] 24)) (.cells #[.int .i64 0, .int .i64 0, .int .i64 0, .int .i64 0] 45)) (blk_new W (.cells #[.int .i64 w, .int .i64 h, .slice o n c] 27))
  have n1 := below_blk (below_alloc1 ((W.alloc (.cells #[.int .i64 w, .int .i64 h, .slice o n c] 27)).alloc (.cells #[.int .i64 x, .int .i64 y] 24)) (.cells #[.int .i64 0, .int .i64 0, .int .i64 0, .int .i64 0] 45)) (blk_new2 W (.cells #[.int .i64 w, .int .i64 h, .slice o n c] 27) (.cells #[.int .i64 x, .int .i64 y] 24))
  have n2 := blk_new2 (W.alloc (.cells #[.int .i64 w, .int .i64 h, .slice o n c] 27)) (.cells #[.int .i64 x, .int .i64 y] 24) (.cells #[.int .i64 0, .int .i64 0, .int .i64 0, .int .i64 0] 45)
  have hB := below_alloc (below_alloc (below_alloc1 W (.cells #[.int .i64 w, .int .i64 h, .slice o n c] 27)) (.cells #[.int .i64 x, .int .i64 y] 24)) (.cells #[.int .i64 0, .int .i64 0, .int .i64 0, .int .i64 0] 45)
  rw [alloc_size] at n2
  obtain ⟨w3, hw3⟩ : ∃ w3, (((W.alloc (.cells #[.int .i64 w, .int .i64 h, .slice o n c] 27)).alloc (.cells #[.int .i64 x, .int .i64 y] 24)).alloc (.cells #[.int .i64 0, .int .i64 0, .int .i64 0, .int .i64 0] 45)) = w3 := ⟨_, rfl⟩
  rw [hw3] at n0 n1 n2 hB ⊢
  clear hw3
  go_loopg [7, 8] k (fun q v7 v8 wr => ∃ (j : Nat) (P : Int), Hid (j + q = k) ∧ Hid (P = 2 ^ j) ∧ v7 = .int .i64 P ∧ v8 = .int .i64 (j : Int) ∧ w3 = wr)
  case atStart => exact ⟨0, 1, Nat.zero_add _, rfl, rfl, rfl, rfl⟩
  case round =>
    obtain ⟨j, P, hj, hP, rfl, rfl, rfl⟩ := hrel
    have hPb : 1 ≤ P ∧ P ≤ 1024 := by rw [hP.out]; exact pow_bd (by have := hj.out; omega)
    cases gk with
    | zero =>
      have hd : decide (j < k) = false := decide_eq_false (by have := hj.out; omega)
      have hPk : P = 2 ^ k := by rw [hP.out, show j = k from hj.out]
      obtain ⟨⟨b1, b2⟩, ⟨b3, b4⟩, ⟨b5, b6⟩, ⟨b7, b8⟩, ⟨b9, b10⟩⟩ := HB.out
      rw [← hPk] at b1 b2 b3 b4
      have sx : (x + 1) * P = x * P + P := by rw [Int.add_mul, Int.one_mul]
      have sy : (y + 1) * P = y * P + P := by rw [Int.add_mul, Int.one_mul]
      have u1 : wrap64 (x * P) = x * P := wrap64_id (by omega) (by omega)
      have u2 : wrap64 (y * P) = y * P := wrap64_id (by omega) (by omega)
      have u3 : wrap64 ((x + 1) * P) = (x + 1) * P := wrap64_id (by omega) (by omega)
      have u4 : wrap64 ((y + 1) * P) = (y + 1) * P := wrap64_id (by omega) (by omega)
      have u5 : wrap64 ((x + 1) * P - 1) = (x + 1) * P - 1 := wrap64_id (by omega) (by omega)
      have u6 : wrap64 ((y + 1) * P - 1) = (y + 1) * P - 1 := wrap64_id (by omega) (by omega)
      have HPk := Lib.hid hPk
      have HSX := Lib.hid sx
      have HSY := Lib.hid sy
      clear hPk
      have l2 := blk_lt n2
      have l0 := blk_lt n0
      have p_0 := cells_w n1 0 rfl
      have p_1 := cells_w n1 1 rfl
      have q_0 := fun o => cells_w (below_blk (below_alloc1 w3 o) n0) 0 rfl
      have q_1 := fun o => cells_w (below_blk (below_alloc1 w3 o) n0) 1 rfl
      have z_0 := fun o => blk_frozen (below_blk (below_alloc1 w3 o) n2) 0
      have z_1 := fun o => blk_frozen (below_blk (below_alloc1 w3 o) n2) 1
      have z_2 := fun o => blk_frozen (below_blk (below_alloc1 w3 o) n2) 2
      have z_3 := fun o => blk_frozen (below_blk (below_alloc1 w3 o) n2) 3
      have k_0 := cells_w n2 0 rfl
      have k_1 := cells_w n2 1 rfl
      have k_2 := cells_w n2 2 rfl
      have k_3 := cells_w n2 3 rfl
      have zz_0 := blk_frozen n2 0
      have zz_1 := blk_frozen n2 1
      have zz_2 := blk_frozen n2 2
      have zz_3 := blk_frozen n2 3
      clear sx sy
      by_cases hx : w ≤ (x + 1) * P - 1
      · have hxd := decide_eq_true hx
        have ex : imin ((x + 1) * P - 1) (w - 1) = w - 1 := by unfold imin; rw [if_pos (by omega)]
        have EX := Lib.hid ex
        clear ex
        by_cases hy : h ≤ (y + 1) * P - 1
        · have hyd := decide_eq_true hy
          have ey : imin ((y + 1) * P - 1) (h - 1) = h - 1 := by unfold imin; rw [if_pos (by omega)]
          have EY := Lib.hid ey
          clear ey
          go_wp2_with fail
          refine bodyPost_ret (res_c rfl rfl (below_blk (below_alloc1 _ _) (blk_set (blk_set (blk_set (blk_set n2 0 _) 1 _) 2 _) 3 _)) agg_Rect rfl) rfl ?_
          refine ⟨?_, below_alloc ((((hB.setCell (by simp; omega) _).setCell (by simp; omega) _).setCell (by simp; omega) _).setCell (by simp; omega) _) _⟩
          rw [← HPk.out, EX.out, EY.out]
          rfl
        · have hyd := decide_eq_false hy
          have ey : imin ((y + 1) * P - 1) (h - 1) = (y + 1) * P - 1 := by unfold imin; rw [if_neg (by omega)]
          have EY := Lib.hid ey
          clear ey
          go_wp2_with fail
          refine bodyPost_ret (res_c rfl rfl (below_blk (below_alloc1 _ _) (blk_set (blk_set (blk_set (blk_set n2 0 _) 1 _) 2 _) 3 _)) agg_Rect rfl) rfl ?_
          refine ⟨?_, below_alloc ((((hB.setCell (by simp; omega) _).setCell (by simp; omega) _).setCell (by simp; omega) _).setCell (by simp; omega) _) _⟩
          rw [← HPk.out, EX.out, EY.out]
          rfl
      · have hxd := decide_eq_false hx
        have ex : imin ((x + 1) * P - 1) (w - 1) = (x + 1) * P - 1 := by unfold imin; rw [if_neg (by omega)]
        have EX := Lib.hid ex
        clear ex
        by_cases hy : h ≤ (y + 1) * P - 1
        · have hyd := decide_eq_true hy
          have ey : imin ((y + 1) * P - 1) (h - 1) = h - 1 := by unfold imin; rw [if_pos (by omega)]
          have EY := Lib.hid ey
          clear ey
          go_wp2_with fail
          refine bodyPost_ret (res_c rfl rfl (below_blk (below_alloc1 _ _) (blk_set (blk_set (blk_set (blk_set n2 0 _) 1 _) 2 _) 3 _)) agg_Rect rfl) rfl ?_
          refine ⟨?_, below_alloc ((((hB.setCell (by simp; omega) _).setCell (by simp; omega) _).setCell (by simp; omega) _).setCell (by simp; omega) _) _⟩
          rw [← HPk.out, EX.out, EY.out]
          rfl
        · have hyd := decide_eq_false hy
          have ey : imin ((y + 1) * P - 1) (h - 1) = (y + 1) * P - 1 := by unfold imin; rw [if_neg (by omega)]
          have EY := Lib.hid ey
          clear ey
          go_wp2_with fail
          refine bodyPost_ret (res_c rfl rfl (below_blk (below_alloc1 _ _) (blk_set (blk_set (blk_set (blk_set n2 0 _) 1 _) 2 _) 3 _)) agg_Rect rfl) rfl ?_
          refine ⟨?_, below_alloc ((((hB.setCell (by simp; omega) _).setCell (by simp; omega) _).setCell (by simp; omega) _).setCell (by simp; omega) _) _⟩
          rw [← HPk.out, EX.out, EY.out]
          rfl
    | succ m =>
      have hjk : j < k := by have := hj.out; omega
      have hd : decide (j < k) = true := decide_eq_true hjk
      have hjk2 : (j : Int) < 10 := by omega
      go_wp2_with fail
      go_roundg m
      case measure => omega
      case rel =>
        exact ⟨j + 1, 2 * P, by have := hj.out; exact (show j + 1 + m = k by omega), show (2 : Int) * P = 2 ^ (j + 1) by rw [hP.out, Int.pow_succ, Int.mul_comm], rfl, congrArg (Value.int .i64) (by push_cast; omega), rfl⟩
end Go.Proofs.Ytgofkgmhpnkchaa
/- tier.check and Span, of a cell that is there. -/
set_option linter.unusedVariables false
set_option linter.unusedSimpArgs false
namespace Go.Proofs.Ytgofkgmhpnkchaa
open Go.RowKit

set_option maxHeartbeats 2000000 in
theorem tier_check_ok (w h x y : Int) (k : Nat) (W : World) (w1 : 1 ≤ w) (w2 : w ≤ 1024) (h1 : 1 ≤ h) (h2 : h ≤ 1024) (hk : k < levs w h) (a1 : 0 ≤ x) (a2 : x < lw w k) (a3 : 0 ≤ y) (a4 : y < lw h k) :
    Calls Try.prog 101 #[.int .i64 w, .int .i64 h, .int .i64 k, .agg #[.int .i64 x, .int .i64 y]] W fun e W' => e = .returned (.int .i64 0) ∧ Below W.heap.size W W' := by
  have t1 : decide (x < 0) = false := decide_eq_false (by omega)
  have t2 : decide (lw w k ≤ x) = false := decide_eq_false (by omega)
  have t3 : decide (y < 0) = false := decide_eq_false (by omega)
  have t4 : decide (lw h k ≤ y) = false := decide_eq_false (by omega)
  go_enter Try.func101, Try.ntmps101
  go_wp2_with fail
  have n0 := blk_new W (.cells #[.int .i64 x, .int .i64 y] 24)
  have hB := below_alloc1 W (.cells #[.int .i64 x, .int .i64 y] 24)
  refine (tier_size_ok w h k _ w1 w2 h1 h2 hk).mono ?_
  rintro e w2' ⟨rfl, hb⟩
  replace n0 := below_blk hb n0
  replace hB := below_next hB hb
  have i_0 := cells_w n0 0 rfl
  have i_1 := cells_w n0 1 rfl
  go_wp2_with fail
  go_ret
  exact ⟨rfl, hB⟩

set_option maxHeartbeats 2000000 in
set_option maxRecDepth 100000 in
theorem tier_span_ok (w h x y : Int) (k : Nat) (W : World) (w1 : 1 ≤ w) (w2 : w ≤ 1024) (h1 : 1 ≤ h) (h2 : h ≤ 1024) (hk : k < levs w h) (a1 : 0 ≤ x) (a2 : x < lw w k) (a3 : 0 ≤ y) (a4 : y < lw h k) :
    Calls Try.prog 60 #[.int .i64 w, .int .i64 h, .int .i64 k, .agg #[.int .i64 x, .int .i64 y]] W
      fun e W' => e = .returned (.tuple #[.agg #[.int .i64 (x * 2 ^ k), .int .i64 (y * 2 ^ k), .int .i64 (imin ((x + 1) * 2 ^ k - 1) (w - 1)), .int .i64 (imin ((y + 1) * 2 ^ k - 1) (h - 1))], .int .i64 0]) ∧ Below W.heap.size W W' := by
  have hL := levs_bd w1 w2 h1 h2
  have bx := span_bd a1 a2
  have lx := lw_bd w1 k
  have ly := lw_bd h1 k
  have hby := span_bd a3 a4
  have bS := pow_bd (k := k) (by omega)
  have sx : (x + 1) * 2 ^ k = x * 2 ^ k + 2 ^ k := by rw [Int.add_mul, Int.one_mul]
  have sy : (y + 1) * 2 ^ k = y * 2 ^ k + 2 ^ k := by rw [Int.add_mul, Int.one_mul]
  have u1 : IntKind.i64.wrap (x * 2 ^ k) = x * 2 ^ k := IntWalk.i64_in _ (by omega)
  have u2 : IntKind.i64.wrap (y * 2 ^ k) = y * 2 ^ k := IntWalk.i64_in _ (by omega)
  have u3 : IntKind.i64.wrap ((x + 1) * 2 ^ k) = (x + 1) * 2 ^ k := IntWalk.i64_in _ (by omega)
  have u4 : IntKind.i64.wrap ((y + 1) * 2 ^ k) = (y + 1) * 2 ^ k := IntWalk.i64_in _ (by omega)
  have e1 : imin ((x + 1) * 2 ^ k) w - 1 = imin ((x + 1) * 2 ^ k - 1) (w - 1) := by unfold imin; split <;> split <;> omega
  have e2 : imin ((y + 1) * 2 ^ k) h - 1 = imin ((y + 1) * 2 ^ k - 1) (h - 1) := by unfold imin; split <;> split <;> omega
  have b1 : 0 ≤ imin ((x + 1) * 2 ^ k) w ∧ imin ((x + 1) * 2 ^ k) w ≤ 1024 := by unfold imin; split <;> omega
  have b2 : 0 ≤ imin ((y + 1) * 2 ^ k) h ∧ imin ((y + 1) * 2 ^ k) h ≤ 1024 := by unfold imin; split <;> omega
  have HE := Lib.hid (And.intro e1 e2)
  clear e1 e2 sx sy
  go_enter Try.func60, Try.ntmps60
  go_wp2_with fail
  have n0 := below_blk (below_alloc1 _ (.cells #[.int .i64 0, .int .i64 0, .int .i64 0, .int .i64 0] 45)) (blk_new W (.cells #[.int .i64 x, .int .i64 y] 24))
  have nR := blk_new2 W (.cells #[.int .i64 x, .int .i64 y] 24) (.cells #[.int .i64 0, .int .i64 0, .int .i64 0, .int .i64 0] 45)
  have hB := below_alloc (below_alloc1 W (.cells #[.int .i64 x, .int .i64 y] 24)) (.cells #[.int .i64 0, .int .i64 0, .int .i64 0, .int .i64 0] 45)
  refine (tier_check_ok w h x y k _ w1 w2 h1 h2 hk a1 a2 a3 a4).mono ?_
  rintro e w3 ⟨rfl, hb⟩
  replace n0 := below_blk hb n0
  replace nR := below_blk hb nR
  replace hB := below_next hB hb
  clear hb
  have i_0 := cells_q n0 0 rfl
  have i_1 := cells_q n0 1 rfl
  go_wp2_with fail
  refine wp_tail 25 (by kernel_rfl) (by kernel_rfl) ?_
  simp only [List.take_succ_cons, List.take_zero, List.drop_succ_cons, List.drop_zero]
  repeat (go_big_quiet_step ((first | fail)))
  refine wpQuiet_nil ?_
  intro w4 hb4
  clear i_0 i_1
  replace nR := below_blk hb4 nR
  replace hB := below_next hB hb4
  have r_0 := cells_w nR 0 rfl
  have r_1 := cells_w nR 1 rfl
  have r_2 := cells_w nR 2 rfl
  have r_3 := cells_w nR 3 rfl
  have z_0 := blk_frozen nR 0
  have z_1 := blk_frozen nR 1
  have z_2 := blk_frozen nR 2
  have z_3 := blk_frozen nR 3
  go_wp2_with fail
  refine bodyPost_ret (res_ct rfl rfl (blk_set (blk_set (blk_set (blk_set nR 0 _) 1 _) 2 _) 3 _) agg_Rect rfl) rfl ?_
  refine ⟨?_, (((hB.setCell (by simp) _).setCell (by simp) _).setCell (by simp) _).setCell (by simp) _⟩
  rw [← HE.out.1, ← HE.out.2]
  rfl
end Go.Proofs.Ytgofkgmhpnkchaa
/- A quotient, rounded down; what is left; which of two slopes is more: plain, without the program's text. -/
set_option linter.unusedVariables false
set_option linter.unusedSimpArgs false
namespace Go.Proofs.Ytgofkgmhpnkchaa

theorem floor_tdiv (s n : Int) (hn : 0 < n) : (if s.tmod n < 0 then s.tdiv n - 1 else s.tdiv n) = s / n := by
  have e := Int.mul_tdiv_add_tmod s n
  have b1 := Int.tmod_lt_of_pos s hn
  have b2 : -n < s.tmod n := by
    have := Int.tmod_lt_of_pos (-s) hn
    rw [Int.neg_tmod] at this
    omega
  by_cases h : s.tmod n < 0
  · rw [if_pos h]
    exact ((Int.ediv_emod_unique hn (a := s) (r := s.tmod n + n) (q := s.tdiv n - 1)).2 ⟨by rw [Int.mul_sub, Int.mul_one]; omega, by omega, by omega⟩).1.symm
  · rw [if_neg h]
    exact ((Int.ediv_emod_unique hn (a := s) (r := s.tmod n) (q := s.tdiv n)).2 ⟨by omega, by omega, by omega⟩).1.symm
theorem left_tmod (s n : Int) (hn : 0 < n) : (if s.tmod n < 0 then s.tmod n + n else s.tmod n) = s % n := by
  have e := Int.mul_tdiv_add_tmod s n
  have b1 := Int.tmod_lt_of_pos s hn
  have b2 : -n < s.tmod n := by
    have := Int.tmod_lt_of_pos (-s) hn
    rw [Int.neg_tmod] at this
    omega
  by_cases h : s.tmod n < 0
  · rw [if_pos h]
    exact ((Int.ediv_emod_unique hn (a := s) (r := s.tmod n + n) (q := s.tdiv n - 1)).2 ⟨by rw [Int.mul_sub, Int.mul_one]; omega, by omega, by omega⟩).2.symm
  · rw [if_neg h]
    exact ((Int.ediv_emod_unique hn (a := s) (r := s.tmod n) (q := s.tdiv n)).2 ⟨by omega, by omega, by omega⟩).2.symm

/-- Below, at, or above 0. -/
def sgn (n : Int) : Int := if n < 0 then -1 else if 0 < n then 1 else 0
theorem sgn_neg (n : Int) : sgn (-n) = -sgn n := by unfold sgn; split <;> split <;> (try split) <;> omega
/-- Which of a over b, c over d is more. -/
def cmpS (a b c d : Int) : Int := sgn (a * d - c * b)
theorem cmpS_bd (a b c d : Int) : -1 ≤ cmpS a b c d ∧ cmpS a b c d ≤ 1 := by unfold cmpS sgn; split <;> (try split) <;> omega
theorem cmpS_pos {a b c d : Int} : 0 < cmpS a b c d ↔ c * b < a * d := by unfold cmpS sgn; split <;> (try split) <;> omega
theorem cmp_parts (a b c d : Int) : a * d - c * b = b * d * (a / b - c / d) + (a % b * d - c % d * b) := by
  have h1 := Int.mul_ediv_add_emod a b
  have h2 := Int.mul_ediv_add_emod c d
  generalize a / b = p at *
  generalize a % b = r at *
  generalize c / d = q at *
  generalize c % d = s at *
  subst h1 h2
  grind
theorem cmp_rest {b d r s : Int} (hb : 0 < b) (hd : 0 < d) (r0 : 0 ≤ r) (r1 : r < b) (s0 : 0 ≤ s) (s1 : s < d) : -(b * d) < r * d - s * b ∧ r * d - s * b < b * d := by
  have h1 := Int.mul_le_mul_of_nonneg_right (show r + 1 ≤ b by omega) (show 0 ≤ d by omega)
  have h2 := Int.mul_le_mul_of_nonneg_right (show s + 1 ≤ d by omega) (show 0 ≤ b by omega)
  have h3 := Int.mul_nonneg r0 (show 0 ≤ d by omega)
  have h4 := Int.mul_nonneg s0 (show 0 ≤ b by omega)
  rw [Int.add_mul] at h1 h2
  rw [Int.mul_comm d b] at h2
  omega
theorem cmp_lt {a b c d : Int} (hb : 0 < b) (hd : 0 < d) (h : a / b < c / d) : cmpS a b c d = -1 := by
  have e := cmp_parts a b c d
  have k := cmp_rest hb hd (Int.emod_nonneg a (by omega)) (Int.emod_lt_of_pos a hb) (Int.emod_nonneg c (by omega)) (Int.emod_lt_of_pos c hd)
  have m := Int.mul_le_mul_of_nonneg_left (show a / b - c / d ≤ -1 by omega) (show 0 ≤ b * d from Int.mul_nonneg (by omega) (by omega))
  rw [Int.mul_neg, Int.mul_one] at m
  unfold cmpS sgn
  rw [if_pos (by omega)]
theorem cmp_gt {a b c d : Int} (hb : 0 < b) (hd : 0 < d) (h : c / d < a / b) : cmpS a b c d = 1 := by
  have e := cmp_parts a b c d
  have k := cmp_rest hb hd (Int.emod_nonneg a (by omega)) (Int.emod_lt_of_pos a hb) (Int.emod_nonneg c (by omega)) (Int.emod_lt_of_pos c hd)
  have m := Int.mul_le_mul_of_nonneg_left (show 1 ≤ a / b - c / d by omega) (show 0 ≤ b * d from Int.mul_nonneg (by omega) (by omega))
  rw [Int.mul_one] at m
  unfold cmpS sgn
  rw [if_neg (by omega), if_pos (by omega)]
theorem cmp_eq {a b c d : Int} (h : a / b = c / d) : cmpS a b c d = sgn (a % b * d - c % d * b) := by
  have e := cmp_parts a b c d
  rw [h, Int.sub_self, Int.mul_zero, Int.zero_add] at e
  unfold cmpS
  rw [e]
theorem cmp_turn {a b c d : Int} (h : a / b = c / d) : cmpS a b c d = -cmpS b (a % b) d (c % d) := by
  rw [cmp_eq h]
  unfold cmpS
  rw [← sgn_neg]
  congr 1
  rw [Int.mul_comm b, Int.mul_comm d]
  omega
/-- The product halves. -/
theorem euclid_half {a b k : Int} (hb : 0 < b) (hab : b < a) (h : a * b ≤ 2 * k) : b * (a % b) ≤ k := by
  have h0 := Int.emod_nonneg a (show b ≠ 0 by omega)
  have h1 := Int.emod_lt_of_pos a hb
  have h2 := Int.mul_ediv_add_emod a b
  have h3 : 1 ≤ a / b := (Int.le_ediv_iff_mul_le hb).2 (by omega)
  have h4 := Int.mul_le_mul_of_nonneg_left h3 (show 0 ≤ b by omega)
  have h5 : 2 * (a % b) ≤ a := by omega
  have h6 := Int.mul_le_mul_of_nonneg_left h5 (show 0 ≤ b by omega)
  rw [Int.mul_comm b a] at h6
  have : b * (2 * (a % b)) = 2 * (b * (a % b)) := by grind
  omega
end Go.Proofs.Ytgofkgmhpnkchaa

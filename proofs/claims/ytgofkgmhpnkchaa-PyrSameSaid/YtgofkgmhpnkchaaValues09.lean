/- hachureref09.Values, of a rectangle that is in the model. -/
import Derived.Test.YtgofkgmhpnkchaaWithin07
import Derived.Test.YtgofkgmhpnkchaaRange
set_option linter.unusedVariables false
set_option linter.unusedSimpArgs false
namespace Go.Proofs.Ytgofkgmhpnkchaa
open Go.RowKit

set_option maxHeartbeats 2000000 in
set_option maxRecDepth 100000 in
theorem ref09_Values_ok (ad : Addr) (cap0 N : Nat) (u : Nat → Int) (w h x0 y0 x1 y1 : Int) (W : World) (w1 : 1 ≤ w) (w2 : w ≤ 1024) (h1 : 1 ≤ h) (h2 : h ≤ 1024) (hN : (N : Int) = w * h) (hrow : RowAt W ad N u)
    (a0 : 0 ≤ x0) (a1 : x0 ≤ x1) (a2 : x1 < w) (a3 : 0 ≤ y0) (a4 : y0 ≤ y1) (a5 : y1 < h) (rw rh : Nat) (hrw : (rw : Int) = x1 - x0 + 1) (hrh : (rh : Int) = y1 - y0 + 1) :
    Calls Try.prog 47 #[.agg #[.int .i64 w, .int .i64 h, .slice (some ad) N cap0], .agg #[.int .i64 x0, .int .i64 y0, .int .i64 x1, .int .i64 y1]] W (ValuesOut W (rw * rh) (rowG (fun x y => u ((y * w + x).toNat)) x0 y0 rw)) := by
  go_enter Try.func47, Try.ntmps47
  go_wp2_with fail
  have n0 := below_blk (below_alloc1 _ (.cells #[.int .i64 x0, .int .i64 y0, .int .i64 x1, .int .i64 y1] 45)) (blk_new W (.cells #[.int .i64 w, .int .i64 h, .slice (some ad) N cap0] 27))
  have n1 := blk_new (W.alloc (.cells #[.int .i64 w, .int .i64 h, .slice (some ad) N cap0] 27)) (.cells #[.int .i64 x0, .int .i64 y0, .int .i64 x1, .int .i64 y1] 45)
  rw [alloc_size] at n1
  have hB := below_alloc (below_alloc1 W (.cells #[.int .i64 w, .int .i64 h, .slice (some ad) N cap0] 27)) (.cells #[.int .i64 x0, .int .i64 y0, .int .i64 x1, .int .i64 y1] 45)
  obtain ⟨W2, hW2⟩ : ∃ W2, ((W.alloc (.cells #[.int .i64 w, .int .i64 h, .slice (some ad) N cap0] 27)).alloc (.cells #[.int .i64 x0, .int .i64 y0, .int .i64 x1, .int .i64 y1] 45)) = W2 := ⟨_, rfl⟩
  rw [hW2] at n0 n1 hB ⊢
  have hrow2 := hrow.below hB
  clear hW2 hrow
  refine (within07_any x0 y0 x1 y1 w h W2 w1 w2 h1 h2).mono ?_
  simp only [withinC_ok.2 ⟨a0, a1, a2, a3, a4, a5⟩]
  rintro e w3 ⟨rfl, hb⟩
  replace n0 := below_blk hb n0
  replace n1 := below_blk hb n1
  replace hrow2 := hrow2.below hb
  replace hB := below_next hB hb
  clear hb
  have j_0 := cells_w n1 0 rfl
  have j_1 := cells_w n1 1 rfl
  have j_2 := cells_w n1 2 rfl
  have j_3 := cells_w n1 3 rfl
  have i_0 := cells_w n0 0 rfl
  have i_1 := cells_w n0 1 rfl
  have i_2 := cells_w n0 2 rfl
  have ja_1 := fun o => cells_w (below_blk (below_alloc1 w3 o) n1) 1 rfl
  go_wp2_with fail
  have hown : (w3.alloc (.cells #[] 2)).ownsRow w3.heap.size 2 1 (.slice (some ⟨w3.heap.size, 0, none⟩) 0 0) 0 [] :=
    ⟨rfl, .inr ⟨w3.heap.size, 0, #[], rfl, Nat.le_refl _, blk_new _ _, Nat.le_refl _, by simp [maxLen], rfl, rfl⟩⟩
  have hbs := hB.size
  have hb := below_alloc1 w3 (.cells #[] 2)
  have Hrw := Lib.hid hrw
  have Hrh := Lib.hid hrh
  have HN := Lib.hid hN
  have hm := Nat.mul_le_mul (show rw ≤ 1024 by omega) (show rh ≤ 1024 by omega)
  have Hrow := Lib.hid hrow2
  clear hrw hrh hN hrow2 j_0 j_1 j_2 j_3 i_0 i_1 i_2 ja_1
  go_loopg [7, 8] rh (fun k v7 v8 wr => ∃ j : Nat, Hid (j + k = rh) ∧ v8 = .int .i64 (y0 + (j : Int)) ∧ wr.ownsRow w3.heap.size 2 1 v7 (rw * j) (vals (rowG (fun x y => u ((y * w + x).toNat)) x0 y0 rw) (rw * j)) ∧ Below w3.heap.size w3 wr)
  case atStart => exact ⟨0, Nat.zero_add _, by simp, by simpa [vals] using hown, hb⟩
  case round =>
    clear hown hb
    obtain ⟨j, hj, rfl, hown, hbr⟩ := hrel
    have cr := below_blk hbr n1
    have k_0 := cells_w cr 0 rfl
    have k_1 := cells_w cr 1 rfl
    have k_2 := cells_w cr 2 rfl
    have k_3 := cells_w cr 3 rfl
    cases gk with
    | zero =>
      have ht : decide (y0 + (j : Int) ≤ y1) = false := decide_eq_false (by have := Hrh.out; have := hj.out; omega)
      go_wp2_with fail
      go_ret2
      have ej : j = rh := hj.out
      subst ej
      obtain ⟨k, cap, cs, hv, hc1, hc2, hc3, hc4⟩ := own_row hown (by have := Nat.mul_le_mul (show 1 ≤ rw by have := Hrw.out; omega) (show 1 ≤ j by have := Hrh.out; omega); omega)
      subst hv
      exact ⟨k, cap, cs, rfl, hc1, by omega, hB.trans (hbr.mono hbs), hc3, fun i hi => hc4 i _ (vals_get _ hi)⟩
    | succ m =>
      have ht : decide (y0 + (j : Int) ≤ y1) = true := decide_eq_true (by have := Hrh.out; have := hj.out; omega)
      have hj' : j + 1 ≤ rh := by have := hj.out; omega
      have hyb : y0 + (j : Int) < h := by have := Hrh.out; omega
      go_wp2_with fail
      clear cr k_0 k_1 k_2 k_3
      go_loopg [7, 9] rw (fun k v7 v9 wi => ∃ i : Nat, Hid (i + k = rw) ∧ v9 = .int .i64 (x0 + (i : Int)) ∧ wi.ownsRow w3.heap.size 2 1 v7 (rw * j + i) (vals (rowG (fun x y => u ((y * w + x).toNat)) x0 y0 rw) (rw * j + i)) ∧ Below w3.heap.size w3 wi)
      case atStart => exact ⟨0, Nat.zero_add _, by simp, hown, hbr⟩
      case round =>
        clear hown hbr
        obtain ⟨i, hi, rfl, hown, hbr⟩ := hrel
        have cr := below_blk hbr n1
        have c0 := below_blk hbr n0
        have k_0 := cells_w cr 0 rfl
        have k_1 := cells_w cr 1 rfl
        have k_2 := cells_w cr 2 rfl
        have k_3 := cells_w cr 3 rfl
        have l_0 := cells_w c0 0 rfl
        have l_1 := cells_w c0 1 rfl
        have l_2 := cells_w c0 2 rfl
        cases gk with
        | zero =>
          have ht2 : decide (x0 + (i : Int) ≤ x1) = false := decide_eq_false (by have := Hrw.out; have := hi.out; omega)
          go_wp2_with fail
          go_roundg m
          case measure => omega
          case rel =>
            have e : i = rw := hi.out
            subst e
            exact ⟨j + 1, by have := hj.out; exact (show j + 1 + m = _ by omega), congrArg (Value.int .i64) (by push_cast; omega), hown, hbr⟩
        | succ m2 =>
          have hi' : i + 1 ≤ rw := by have := hi.out; omega
          have ht2 : decide (x0 + (i : Int) ≤ x1) = true := decide_eq_true (by have := Hrw.out; omega)
          have hxb : x0 + (i : Int) < w := by have := Hrw.out; omega
          have hix := idx_lt (x := x0 + (i : Int)) (y := y0 + (j : Int)) (w := w) (h := h) (by omega) hxb (by omega) hyb
          have hym := mul_bd (a := y0 + (j : Int)) (b := w) (A := 1024) (B := 1024) (by omega) (by omega) (by omega) (by omega)
          have hNN := mul_bd (a := w) (b := h) (A := 1024) (B := 1024) (by omega) (by omega) (by omega) (by omega)
          have hlt : ((y0 + (j : Int)) * w + (x0 + (i : Int))).toNat < N := by have := HN.out; omega
          have hc := (Hrow.out.below hbr) _ hlt
          have wr1 : wrap64 ((y0 + (j : Int)) * w) = (y0 + (j : Int)) * w := wrap64_id (by omega) (by omega)
          have wr2 : wrap64 ((y0 + (j : Int)) * w + (x0 + (i : Int))) = (y0 + (j : Int)) * w + (x0 + (i : Int)) := wrap64_id (by omega) (by omega)
          have hsz := hbr.size
          have hlen : rw * j + i < rw * rh := by
            have := Nat.mul_le_mul_left rw hj'
            rw [Nat.mul_add] at this
            omega
          have hI1 : 0 ≤ (y0 + (j : Int)) * w + (x0 + (i : Int)) := hix.1
          have hI2 : (y0 + (j : Int)) * w + (x0 + (i : Int)) < (N : Int) := by have := HN.out; omega
          go_wp2_with (at_builtin; refine append_el w3.heap.size rfl (.tmp 36) (.tmp 47) 22 2 _ 1 8 rfl Try.underlying22 info_int64 rfl (by omega) _ _ _ [.int .i64 (u (((y0 + (j : Int)) * w + (x0 + (i : Int))).toNat))] rfl _ rfl rfl rfl ?_ hown hsz (by omega) (by omega) ?_)
          · intro u hu; simp at hu; subst hu; rfl
          · intro v1 w8 hown2 hb2
            have hbr8 := hbr.trans hb2
            clear cr k_0 k_1 k_2 k_3
            have cr := below_blk hbr8 n1
            have k_0 := cells_w cr 0 rfl
            have k_1 := cells_w cr 1 rfl
            have k_2 := cells_w cr 2 rfl
            have k_3 := cells_w cr 3 rfl
            go_wp2_with fail
            go_roundg m2
            case measure => omega
            case rel =>
              refine ⟨i + 1, by have := hi.out; exact (show i + 1 + m2 = _ by omega), congrArg (Value.int .i64) (by push_cast; omega), ?_, hbr8⟩
              have e2 := vals_succ (rowG (fun x y => u ((y * w + x).toNat)) x0 y0 rw) (rw * j + i)
              rw [rowG_at _ x0 y0 (show i < rw by omega)] at e2
              rw [show rw * j + (i + 1) = rw * j + i + 1 from rfl, e2]
              exact hown2
end Go.Proofs.Ytgofkgmhpnkchaa

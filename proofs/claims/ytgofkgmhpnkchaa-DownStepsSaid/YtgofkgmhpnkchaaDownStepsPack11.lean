/- Texts of this claim, joined: DownLevel, DownBad. -/
import Derived.Test.YtgofkgmhpnkchaaDownStepsPack5
import Derived.Test.YtgofkgmhpnkchaaDownStepsPack8
import Derived.Test.YtgofkgmhpnkchaaDownStepsPack10
/- down.Level. -/
set_option linter.unusedVariables false
set_option linter.unusedSimpArgs false
namespace Go.Proofs.Ytgofkgmhpnkchaa
open Go.RowKit

/-- How many columns a level's cell stands for. -/
def spanN (w : Int) (k : Nat) (x : Int) : Nat := (imin ((x + 1) * 2 ^ k - 1) (w - 1) - x * 2 ^ k + 1).toNat
theorem spanN_eq {w x : Int} {k : Nat} (a1 : 0 ≤ x) (a2 : x < lw w k) : (spanN w k x : Int) = imin ((x + 1) * 2 ^ k - 1) (w - 1) - x * 2 ^ k + 1 ∧ 0 ≤ x * 2 ^ k ∧ x * 2 ^ k ≤ imin ((x + 1) * 2 ^ k - 1) (w - 1) ∧ imin ((x + 1) * 2 ^ k - 1) (w - 1) < w ∧ 1 ≤ spanN w k x := by
  have b := span_bd a1 a2
  have p := pow2_pos k
  have s : (x + 1) * 2 ^ k = x * 2 ^ k + 2 ^ k := by rw [Int.add_mul, Int.one_mul]
  have h1 : x * 2 ^ k ≤ imin ((x + 1) * 2 ^ k - 1) (w - 1) ∧ imin ((x + 1) * 2 ^ k - 1) (w - 1) < w := by unfold imin; split <;> omega
  unfold spanN
  omega
/-- A level's cells, in some way. -/
def downF (how : Int) (f : Int → Int → Int) (w h : Int) (k : Nat) : Int → Int → Int :=
  fun x y => wayL how (rowG f (x * 2 ^ k) (y * 2 ^ k) (spanN w k x)) (spanN w k x * spanN h k y)
/-- Values that may be, all over. -/
def MayF (f : Int → Int → Int) (w h : Int) : Prop := ∀ x y, 0 ≤ x → x < w → 0 ≤ y → y < h → -2147483648 ≤ f x y ∧ f x y ≤ 2147483647
theorem may_row {f : Int → Int → Int} {w h x0 y0 x1 y1 : Int} {rw rh : Nat} (hm : MayF f w h) (a0 : 0 ≤ x0) (a2 : x1 < w) (a3 : 0 ≤ y0) (a5 : y1 < h) (hrw : (rw : Int) = x1 - x0 + 1) (hrh : (rh : Int) = y1 - y0 + 1) (h1 : 1 ≤ rw) : MayL (rowG f x0 y0 rw) (rw * rh) := by
  intro i hi
  have b1 := Nat.mod_lt i (show 0 < rw by omega)
  have b2 : i / rw < rh := Nat.div_lt_of_lt_mul hi
  unfold rowG
  generalize i % rw = I at *
  generalize i / rw = J at *
  exact hm _ _ (by omega) (by omega) (by omega) (by omega)
theorem down_may {how : Int} {f : Int → Int → Int} {w h : Int} {k : Nat} (hm : MayF f w h) : MayF (downF how f w h k) (lw w k) (lw h k) := by
  intro x y a1 a2 a3 a4
  have e1 := spanN_eq a1 a2
  have e2 := spanN_eq a3 a4
  unfold downF
  refine wayL_bd (may_row hm e1.2.1 e1.2.2.2.1 e2.2.1 e2.2.2.2.1 e1.1 e2.1 e1.2.2.2.2) ?_
  have := Nat.mul_le_mul e1.2.2.2.2 e2.2.2.2.2
  omega
/-- The level grid. -/
def LevelOut (how : Int) (f : Int → Int → Int) (w h : Int) (k : Nat) (W : World) (e : Ending) (W' : World) : Prop :=
  ∃ g F, e = .returned (.tuple #[.pointer (some ⟨g, 0, none⟩), .int .i64 0]) ∧ Below W.heap.size W W' ∧ (∀ k, F k → W.heap.size ≤ k) ∧ GridAt W' g F (lw w k) (lw h k) (downF how f w h k)

theorem way0_call (ad : Addr) (n cap : Nat) (g : Nat → Int) (W : World) (n1 : 1 ≤ n) (n2 : n ≤ 1048576) (hm : MayL g n) (hr : RowAt W ad n g) : Calls Try.prog 98 #[.slice (some ad) n cap] W fun e W' => e = .returned (.int .i64 (wayL 0 g n)) ∧ W = W' := min_ok ad n cap g W n1 n2 hr
theorem way1_call (ad : Addr) (n cap : Nat) (g : Nat → Int) (W : World) (n1 : 1 ≤ n) (n2 : n ≤ 1048576) (hm : MayL g n) (hr : RowAt W ad n g) : Calls Try.prog 99 #[.slice (some ad) n cap] W fun e W' => e = .returned (.int .i64 (wayL 1 g n)) ∧ W = W' := max_ok ad n cap g W n1 n2 hr
theorem way2_call (ad : Addr) (n cap : Nat) (g : Nat → Int) (W : World) (n1 : 1 ≤ n) (n2 : n ≤ 1048576) (hm : MayL g n) (hr : RowAt W ad n g) : Calls Try.prog 100 #[.slice (some ad) n cap] W fun e W' => e = .returned (.int .i64 (wayL 2 g n)) ∧ W = W' := down_mean_ok ad n cap g W n1 n2 hm hr

set_option maxHeartbeats 4000000 in
set_option maxRecDepth 100000 in
theorem level_0 (g : Nat) (Fg : Nat → Prop) (w h : Int) (k : Nat) (f : Int → Int → Int) (W : World) (HG : GridAt W g Fg w h f) (hk : k < levs w h) (hmay : MayF f w h) :
    Calls Try.prog 24 #[.pointer (some ⟨g, 0, none⟩), .int .i64 k, .int .i64 0] W (LevelOut 0 f w h k W) := by
  obtain ⟨d1, d2, d3, d4⟩ := HG.dims
  have hL := levs_bd d1 d2 d3 d4
  have hk10 : k ≤ 10 := by omega
  have bw := lw_bd d1 k
  have bh := lw_bd d3 k
  obtain ⟨wn, hwn⟩ : ∃ wn : Nat, (wn : Int) = lw w k := ⟨(lw w k).toNat, by omega⟩
  obtain ⟨hn, hhn⟩ : ∃ hn : Nat, (hn : Int) = lw h k := ⟨(lw h k).toNat, by omega⟩
  have hwb : 1 ≤ wn ∧ wn ≤ 1024 := by omega
  have hhb : 1 ≤ hn ∧ hn ≤ 1024 := by omega
  have HWN := Lib.hid hwn
  have HHN := Lib.hid hhn
  have HMAY := Lib.hid hmay
  have HWAY := Lib.hid way0_ok
  have HCALL := Lib.hid way0_call
  have HK := Lib.hid hk
  clear hmay hL hk
  go_enter Try.func24, Try.ntmps24
  go_wp2_with fail
  refine (grid_Size_ok g Fg w h f _ HG).mono ?_
  rintro e w2 ⟨rfl, hb⟩
  have HG2 := HG.below hb
  have hB := hb
  clear hb HG
  go_wp2_with fail
  refine (tier_size_ok w h k _ d1 d2 d3 d4 HK.out).mono ?_
  rw [← HWN.out, ← HHN.out]
  rintro e w3 ⟨rfl, hb⟩
  have HG3 := HG2.below hb
  replace hB := below_next hB hb
  clear hb HG2 hwn hhn bw bh
  go_wp2_with fail
  refine (HWAY.out _).mono ?_
  rintro e w' ⟨rfl, rfl⟩
  have hnil := func_not_nil 98
  go_wp2_with fail
  clear hnil
  go_loopg [14, 45] hn (fun q v14 v45 wr => ∃ j : Nat, Hid (j + q = hn) ∧ v45 = .int .i64 (j : Int) ∧ wr.ownsRow w3.heap.size 2 1 v14 (wn * j) (vals (lin (downF 0 f w h k) wn) (wn * j)) ∧ Below w3.heap.size w3 wr)
  case atStart => exact ⟨0, Nat.zero_add _, rfl, by simpa [vals] using World.ownsRow_nil w3 w3.heap.size 2 1, Below.refl _ _⟩
  case round =>
    obtain ⟨j, hj, rfl, hown, hbr⟩ := hrel
    cases gk with
    | zero =>
      have ht : decide (j < hn) = false := decide_eq_false (by have := hj.out; omega)
      have ht2 : decide ((j : Int) < (hn : Int)) = false := decide_eq_false (by have := hj.out; omega)
      have ej : j = hn := hj.out
      subst ej
      have h11 := Nat.mul_le_mul hwb.1 hhb.1
      obtain ⟨k9, cap9, cs9, hv9, hc1, hc2, hc3, hc4⟩ := own_row hown (by omega)
      subst hv9
      have HR9 := Lib.hid (RowAt.of_blk hc3 (fun i hi => hc4 i _ (vals_get _ hi)))
      have hu : ∀ i, i < wn * j → -2147483648 ≤ lin (downF 0 f w h k) wn i ∧ lin (downF 0 f w h k) wn i ≤ 2147483647 := by
        intro i hi
        have hl := lin_at (w := wn) (h := j) (i := i) (by omega) (by have : ((wn * j : Nat) : Int) = wn * j := by { push_cast; rfl }; omega)
        unfold lin
        exact down_may HMAY.out _ _ hl.1 (by have := HWN.out; omega) hl.2.2.1 (by have := HHN.out; omega)
      have HU := Lib.hid hu
      have hB9 := below_next hB hbr
      have hsz9 := hB9.size
      clear hu hown hc1 hc2 hc3 hc4 h11 hj
      go_wp2_with fail
      refine (paint_From_ok wn j wr hwb.1 hwb.2 hhb.1 hhb.2 ⟨k9, 0, none⟩ cap9 (lin (downF 0 f w h k) wn) HU.out HR9.out).mono ?_
      rintro e w10 ⟨g2, F2, rfl, hb10, hF2, HG10⟩
      go_wp2_with fail
      go_ret2
      refine ⟨g2, F2, rfl, below_next hB9 hb10, fun t ht => Nat.le_trans hsz9 (hF2 t ht), ?_⟩
      rw [← HWN.out, ← HHN.out]
      exact HG10.congr (fun x y b0 b1 b2 b3 => (lin_idx b0 b1 b2).symm)
    | succ m =>
      have hjh : j < hn := by have := hj.out; omega
      have ht : decide (j < hn) = true := decide_eq_true hjh
      have ht2 : decide ((j : Int) < (hn : Int)) = true := decide_eq_true (by omega)
      go_wp2_with fail
      go_loopg [14, 49] wn (fun q v14 v49 wi => ∃ i : Nat, Hid (i + q = wn) ∧ v49 = .int .i64 (i : Int) ∧ wi.ownsRow w3.heap.size 2 1 v14 (wn * j + i) (vals (lin (downF 0 f w h k) wn) (wn * j + i)) ∧ Below w3.heap.size w3 wi)
      case atStart => exact ⟨0, Nat.zero_add _, rfl, hown, hbr⟩
      case round =>
        clear hown hbr
        obtain ⟨i, hi, rfl, hown, hbr⟩ := hrel
        cases gk with
        | zero =>
          have ht3 : decide (i < wn) = false := decide_eq_false (by have := hi.out; omega)
          have ht4 : decide ((i : Int) < (wn : Int)) = false := decide_eq_false (by have := hi.out; omega)
          go_wp2_with fail
          go_roundg m
          case measure => omega
          case rel =>
            have e : i = wn := hi.out
            rw [e] at hown
            exact ⟨j + 1, by have := hj.out; exact (show j + 1 + m = hn by omega), by first | rfl | (exact congrArg (Value.int .i64) (by push_cast; omega)), hown, hbr⟩
        | succ m2 =>
          have hiw : i < wn := by have := hi.out; omega
          have ht3 : decide (i < wn) = true := decide_eq_true hiw
          have ht4 : decide ((i : Int) < (wn : Int)) = true := decide_eq_true (by omega)
          have hx : (i : Int) < lw w k := by have := HWN.out; omega
          have hy : (j : Int) < lw h k := by have := HHN.out; omega
          have HXY := Lib.hid (And.intro hx hy)
          clear hx hy
          go_wp2_with fail
          refine (tier_span_ok w h i j k _ d1 d2 d3 d4 HK.out (by omega) HXY.out.1 (by omega) HXY.out.2).mono ?_
          have sx := spanN_eq (x := (i : Int)) (by omega) HXY.out.1
          have sy := spanN_eq (x := (j : Int)) (by omega) HXY.out.2
          obtain ⟨X0, hX0⟩ : ∃ X0, (i : Int) * 2 ^ k = X0 := ⟨_, rfl⟩
          obtain ⟨Y0, hY0⟩ : ∃ Y0, (j : Int) * 2 ^ k = Y0 := ⟨_, rfl⟩
          obtain ⟨X1, hX1⟩ : ∃ X1, imin (((i : Int) + 1) * 2 ^ k - 1) (w - 1) = X1 := ⟨_, rfl⟩
          obtain ⟨Y1, hY1⟩ : ∃ Y1, imin (((j : Int) + 1) * 2 ^ k - 1) (h - 1) = Y1 := ⟨_, rfl⟩
          obtain ⟨rw, hrw⟩ : ∃ rw, spanN w k i = rw := ⟨_, rfl⟩
          obtain ⟨rh, hrh⟩ : ∃ rh, spanN h k j = rh := ⟨_, rfl⟩
          rw [hX0, hX1, hrw] at sx
          rw [hY0, hY1, hrh] at sy
          rw [hX0, hX1, hY0, hY1]
          have HD : Hid (downF 0 f w h k i j = wayL 0 (rowG f X0 Y0 rw) (rw * rh)) := by
            show downF 0 f w h k i j = _
            unfold downF
            rw [hX0, hY0, hrw, hrh]
          clear hX0 hY0 hX1 hY1 hrw hrh
          rintro e w4 ⟨rfl, hb4⟩
          have hbr4 : Below w3.heap.size w3 w4 := hbr.trans (hb4.mono hbr.size)
          have hown4 := own_below hown hb4
          have nQ := blk_new w4 (.cells #[.int .i64 X0, .int .i64 Y0, .int .i64 X1, .int .i64 Y1] 45)
          have hb5 := below_alloc1 w4 (.cells #[.int .i64 X0, .int .i64 Y0, .int .i64 X1, .int .i64 Y1] 45)
          clear hb4 hbr hown
          go_wp2_with fail
          obtain ⟨w5, hw5⟩ : ∃ w5, w4.alloc (.cells #[.int .i64 X0, .int .i64 Y0, .int .i64 X1, .int .i64 Y1] 45) = w5 := ⟨_, rfl⟩
          rw [hw5] at nQ hb5 ⊢
          clear hw5
          have hbr5 : Below w3.heap.size w3 w5 := hbr4.trans (hb5.mono hbr4.size)
          have hown5 := own_below hown4 hb5
          clear hb5 hbr4 hown4 nQ
          refine (grid_Values_ok g Fg w h X0 Y0 X1 Y1 f w5 (HG3.below hbr5) sx.2.1 sx.2.2.1 sx.2.2.2.1 sy.2.1 sy.2.2.1 sy.2.2.2.1 rw rh sx.1 sy.1).mono ?_
          rintro e w6 ⟨k6, cap6, cs6, rfl, hcap6, hk6, hb6, hrow6, hcs6⟩
          have hbr6 : Below w3.heap.size w3 w6 := hbr5.trans (hb6.mono hbr5.size)
          have hown6 := own_below hown5 hb6
          have hR6 := Lib.hid (RowAt.of_blk hrow6 hcs6)
          have hmm := Nat.mul_le_mul (show rw ≤ 1024 by omega) (show rh ≤ 1024 by omega)
          have hm1 := Nat.mul_le_mul sx.2.2.2.2 sy.2.2.2.2
          have hnb : 1 ≤ rw * rh ∧ rw * rh ≤ 1048576 := by omega
          have HNB := Lib.hid hnb
          have HMR := Lib.hid (may_row HMAY.out sx.2.1 sx.2.2.2.1 sy.2.1 sy.2.2.2.1 sx.1 sy.1 sx.2.2.2.2)
          have hlen : wn * j + i < wn * hn := by
            have := Nat.mul_le_mul_left wn (show j + 1 ≤ hn by omega)
            rw [Nat.mul_add] at this
            omega
          have hlen2 : wn * hn ≤ 1048576 := Nat.mul_le_mul hwb.2 hhb.2
          have hlen3 : wn * j + i + 1 ≤ 1048576 := by omega
          have hsz := hbr6.size
          clear hb6 hrow6 hcs6 hcap6 hk6 hbr5 hown5 hmm hm1 hnb sx sy hlen hlen2
          go_wp2_with fail
          refine (HCALL.out ⟨k6, 0, none⟩ (rw * rh) cap6 _ w6 HNB.out.1 HNB.out.2 HMR.out hR6.out).mono ?_
          rw [← HD.out]
          rintro e w' ⟨rfl, rfl⟩
          go_wp2_with (at_builtin; refine append_el w3.heap.size rfl (.tmp 68) (.tmp 72) 22 2 _ 1 8 rfl Try.underlying22 info_int64 rfl (by omega) _ _ _ [.int .i64 (downF 0 f w h k i j)] rfl _ rfl rfl rfl ?_ hown6 hsz (by omega) (by omega) ?_)
          · intro u hu; simp at hu; subst hu; rfl
          · intro v1 w8 hown2 hb2
            have hbr8 := hbr6.trans hb2
            go_wp2_with fail
            go_roundg m2
            case measure => omega
            case rel =>
              refine ⟨i + 1, by have := hi.out; exact (show i + 1 + m2 = wn by omega), by first | rfl | (exact congrArg (Value.int .i64) (by push_cast; omega)), ?_, hbr8⟩
              rw [show wn * j + (i + 1) = wn * j + i + 1 from rfl, vals_succ]
              have e2 : lin (downF 0 f w h k) wn (wn * j + i) = downF 0 f w h k i j := by
                have h8 := lin_idx (g := downF 0 f w h k) (w := wn) (x := (i : Int)) (y := (j : Int)) (by omega) (by omega) (by omega)
                rw [show ((j : Int) * (wn : Int) + (i : Int)).toNat = wn * j + i by rw [show (j : Int) * (wn : Int) + (i : Int) = ((wn * j + i : Nat) : Int) by push_cast; rw [Int.mul_comm]]; exact Int.toNat_natCast _] at h8
                exact h8
              rw [e2]
              exact hown2

set_option maxHeartbeats 4000000 in
set_option maxRecDepth 100000 in
theorem level_1 (g : Nat) (Fg : Nat → Prop) (w h : Int) (k : Nat) (f : Int → Int → Int) (W : World) (HG : GridAt W g Fg w h f) (hk : k < levs w h) (hmay : MayF f w h) :
    Calls Try.prog 24 #[.pointer (some ⟨g, 0, none⟩), .int .i64 k, .int .i64 1] W (LevelOut 1 f w h k W) := by
  obtain ⟨d1, d2, d3, d4⟩ := HG.dims
  have hL := levs_bd d1 d2 d3 d4
  have hk10 : k ≤ 10 := by omega
  have bw := lw_bd d1 k
  have bh := lw_bd d3 k
  obtain ⟨wn, hwn⟩ : ∃ wn : Nat, (wn : Int) = lw w k := ⟨(lw w k).toNat, by omega⟩
  obtain ⟨hn, hhn⟩ : ∃ hn : Nat, (hn : Int) = lw h k := ⟨(lw h k).toNat, by omega⟩
  have hwb : 1 ≤ wn ∧ wn ≤ 1024 := by omega
  have hhb : 1 ≤ hn ∧ hn ≤ 1024 := by omega
  have HWN := Lib.hid hwn
  have HHN := Lib.hid hhn
  have HMAY := Lib.hid hmay
  have HWAY := Lib.hid way1_ok
  have HCALL := Lib.hid way1_call
  have HK := Lib.hid hk
  clear hmay hL hk
  go_enter Try.func24, Try.ntmps24
  go_wp2_with fail
  refine (grid_Size_ok g Fg w h f _ HG).mono ?_
  rintro e w2 ⟨rfl, hb⟩
  have HG2 := HG.below hb
  have hB := hb
  clear hb HG
  go_wp2_with fail
  refine (tier_size_ok w h k _ d1 d2 d3 d4 HK.out).mono ?_
  rw [← HWN.out, ← HHN.out]
  rintro e w3 ⟨rfl, hb⟩
  have HG3 := HG2.below hb
  replace hB := below_next hB hb
  clear hb HG2 hwn hhn bw bh
  go_wp2_with fail
  refine (HWAY.out _).mono ?_
  rintro e w' ⟨rfl, rfl⟩
  have hnil := func_not_nil 99
  go_wp2_with fail
  clear hnil
  go_loopg [14, 45] hn (fun q v14 v45 wr => ∃ j : Nat, Hid (j + q = hn) ∧ v45 = .int .i64 (j : Int) ∧ wr.ownsRow w3.heap.size 2 1 v14 (wn * j) (vals (lin (downF 1 f w h k) wn) (wn * j)) ∧ Below w3.heap.size w3 wr)
  case atStart => exact ⟨0, Nat.zero_add _, rfl, by simpa [vals] using World.ownsRow_nil w3 w3.heap.size 2 1, Below.refl _ _⟩
  case round =>
    obtain ⟨j, hj, rfl, hown, hbr⟩ := hrel
    cases gk with
    | zero =>
      have ht : decide (j < hn) = false := decide_eq_false (by have := hj.out; omega)
      have ht2 : decide ((j : Int) < (hn : Int)) = false := decide_eq_false (by have := hj.out; omega)
      have ej : j = hn := hj.out
      subst ej
      have h11 := Nat.mul_le_mul hwb.1 hhb.1
      obtain ⟨k9, cap9, cs9, hv9, hc1, hc2, hc3, hc4⟩ := own_row hown (by omega)
      subst hv9
      have HR9 := Lib.hid (RowAt.of_blk hc3 (fun i hi => hc4 i _ (vals_get _ hi)))
      have hu : ∀ i, i < wn * j → -2147483648 ≤ lin (downF 1 f w h k) wn i ∧ lin (downF 1 f w h k) wn i ≤ 2147483647 := by
        intro i hi
        have hl := lin_at (w := wn) (h := j) (i := i) (by omega) (by have : ((wn * j : Nat) : Int) = wn * j := by { push_cast; rfl }; omega)
        unfold lin
        exact down_may HMAY.out _ _ hl.1 (by have := HWN.out; omega) hl.2.2.1 (by have := HHN.out; omega)
      have HU := Lib.hid hu
      have hB9 := below_next hB hbr
      have hsz9 := hB9.size
      clear hu hown hc1 hc2 hc3 hc4 h11 hj
      go_wp2_with fail
      refine (paint_From_ok wn j wr hwb.1 hwb.2 hhb.1 hhb.2 ⟨k9, 0, none⟩ cap9 (lin (downF 1 f w h k) wn) HU.out HR9.out).mono ?_
      rintro e w10 ⟨g2, F2, rfl, hb10, hF2, HG10⟩
      go_wp2_with fail
      go_ret2
      refine ⟨g2, F2, rfl, below_next hB9 hb10, fun t ht => Nat.le_trans hsz9 (hF2 t ht), ?_⟩
      rw [← HWN.out, ← HHN.out]
      exact HG10.congr (fun x y b0 b1 b2 b3 => (lin_idx b0 b1 b2).symm)
    | succ m =>
      have hjh : j < hn := by have := hj.out; omega
      have ht : decide (j < hn) = true := decide_eq_true hjh
      have ht2 : decide ((j : Int) < (hn : Int)) = true := decide_eq_true (by omega)
      go_wp2_with fail
      go_loopg [14, 49] wn (fun q v14 v49 wi => ∃ i : Nat, Hid (i + q = wn) ∧ v49 = .int .i64 (i : Int) ∧ wi.ownsRow w3.heap.size 2 1 v14 (wn * j + i) (vals (lin (downF 1 f w h k) wn) (wn * j + i)) ∧ Below w3.heap.size w3 wi)
      case atStart => exact ⟨0, Nat.zero_add _, rfl, hown, hbr⟩
      case round =>
        clear hown hbr
        obtain ⟨i, hi, rfl, hown, hbr⟩ := hrel
        cases gk with
        | zero =>
          have ht3 : decide (i < wn) = false := decide_eq_false (by have := hi.out; omega)
          have ht4 : decide ((i : Int) < (wn : Int)) = false := decide_eq_false (by have := hi.out; omega)
          go_wp2_with fail
          go_roundg m
          case measure => omega
          case rel =>
            have e : i = wn := hi.out
            rw [e] at hown
            exact ⟨j + 1, by have := hj.out; exact (show j + 1 + m = hn by omega), by first | rfl | (exact congrArg (Value.int .i64) (by push_cast; omega)), hown, hbr⟩
        | succ m2 =>
          have hiw : i < wn := by have := hi.out; omega
          have ht3 : decide (i < wn) = true := decide_eq_true hiw
          have ht4 : decide ((i : Int) < (wn : Int)) = true := decide_eq_true (by omega)
          have hx : (i : Int) < lw w k := by have := HWN.out; omega
          have hy : (j : Int) < lw h k := by have := HHN.out; omega
          have HXY := Lib.hid (And.intro hx hy)
          clear hx hy
          go_wp2_with fail
          refine (tier_span_ok w h i j k _ d1 d2 d3 d4 HK.out (by omega) HXY.out.1 (by omega) HXY.out.2).mono ?_
          have sx := spanN_eq (x := (i : Int)) (by omega) HXY.out.1
          have sy := spanN_eq (x := (j : Int)) (by omega) HXY.out.2
          obtain ⟨X0, hX0⟩ : ∃ X0, (i : Int) * 2 ^ k = X0 := ⟨_, rfl⟩
          obtain ⟨Y0, hY0⟩ : ∃ Y0, (j : Int) * 2 ^ k = Y0 := ⟨_, rfl⟩
          obtain ⟨X1, hX1⟩ : ∃ X1, imin (((i : Int) + 1) * 2 ^ k - 1) (w - 1) = X1 := ⟨_, rfl⟩
          obtain ⟨Y1, hY1⟩ : ∃ Y1, imin (((j : Int) + 1) * 2 ^ k - 1) (h - 1) = Y1 := ⟨_, rfl⟩
          obtain ⟨rw, hrw⟩ : ∃ rw, spanN w k i = rw := ⟨_, rfl⟩
          obtain ⟨rh, hrh⟩ : ∃ rh, spanN h k j = rh := ⟨_, rfl⟩
          rw [hX0, hX1, hrw] at sx
          rw [hY0, hY1, hrh] at sy
          rw [hX0, hX1, hY0, hY1]
          have HD : Hid (downF 1 f w h k i j = wayL 1 (rowG f X0 Y0 rw) (rw * rh)) := by
            show downF 1 f w h k i j = _
            unfold downF
            rw [hX0, hY0, hrw, hrh]
          clear hX0 hY0 hX1 hY1 hrw hrh
          rintro e w4 ⟨rfl, hb4⟩
          have hbr4 : Below w3.heap.size w3 w4 := hbr.trans (hb4.mono hbr.size)
          have hown4 := own_below hown hb4
          have nQ := blk_new w4 (.cells #[.int .i64 X0, .int .i64 Y0, .int .i64 X1, .int .i64 Y1] 45)
          have hb5 := below_alloc1 w4 (.cells #[.int .i64 X0, .int .i64 Y0, .int .i64 X1, .int .i64 Y1] 45)
          clear hb4 hbr hown
          go_wp2_with fail
          obtain ⟨w5, hw5⟩ : ∃ w5, w4.alloc (.cells #[.int .i64 X0, .int .i64 Y0, .int .i64 X1, .int .i64 Y1] 45) = w5 := ⟨_, rfl⟩
          rw [hw5] at nQ hb5 ⊢
          clear hw5
          have hbr5 : Below w3.heap.size w3 w5 := hbr4.trans (hb5.mono hbr4.size)
          have hown5 := own_below hown4 hb5
          clear hb5 hbr4 hown4 nQ
          refine (grid_Values_ok g Fg w h X0 Y0 X1 Y1 f w5 (HG3.below hbr5) sx.2.1 sx.2.2.1 sx.2.2.2.1 sy.2.1 sy.2.2.1 sy.2.2.2.1 rw rh sx.1 sy.1).mono ?_
          rintro e w6 ⟨k6, cap6, cs6, rfl, hcap6, hk6, hb6, hrow6, hcs6⟩
          have hbr6 : Below w3.heap.size w3 w6 := hbr5.trans (hb6.mono hbr5.size)
          have hown6 := own_below hown5 hb6
          have hR6 := Lib.hid (RowAt.of_blk hrow6 hcs6)
          have hmm := Nat.mul_le_mul (show rw ≤ 1024 by omega) (show rh ≤ 1024 by omega)
          have hm1 := Nat.mul_le_mul sx.2.2.2.2 sy.2.2.2.2
          have hnb : 1 ≤ rw * rh ∧ rw * rh ≤ 1048576 := by omega
          have HNB := Lib.hid hnb
          have HMR := Lib.hid (may_row HMAY.out sx.2.1 sx.2.2.2.1 sy.2.1 sy.2.2.2.1 sx.1 sy.1 sx.2.2.2.2)
          have hlen : wn * j + i < wn * hn := by
            have := Nat.mul_le_mul_left wn (show j + 1 ≤ hn by omega)
            rw [Nat.mul_add] at this
            omega
          have hlen2 : wn * hn ≤ 1048576 := Nat.mul_le_mul hwb.2 hhb.2
          have hlen3 : wn * j + i + 1 ≤ 1048576 := by omega
          have hsz := hbr6.size
          clear hb6 hrow6 hcs6 hcap6 hk6 hbr5 hown5 hmm hm1 hnb sx sy hlen hlen2
          go_wp2_with fail
          refine (HCALL.out ⟨k6, 0, none⟩ (rw * rh) cap6 _ w6 HNB.out.1 HNB.out.2 HMR.out hR6.out).mono ?_
          rw [← HD.out]
          rintro e w' ⟨rfl, rfl⟩
          go_wp2_with (at_builtin; refine append_el w3.heap.size rfl (.tmp 68) (.tmp 72) 22 2 _ 1 8 rfl Try.underlying22 info_int64 rfl (by omega) _ _ _ [.int .i64 (downF 1 f w h k i j)] rfl _ rfl rfl rfl ?_ hown6 hsz (by omega) (by omega) ?_)
          · intro u hu; simp at hu; subst hu; rfl
          · intro v1 w8 hown2 hb2
            have hbr8 := hbr6.trans hb2
            go_wp2_with fail
            go_roundg m2
            case measure => omega
            case rel =>
              refine ⟨i + 1, by have := hi.out; exact (show i + 1 + m2 = wn by omega), by first | rfl | (exact congrArg (Value.int .i64) (by push_cast; omega)), ?_, hbr8⟩
              rw [show wn * j + (i + 1) = wn * j + i + 1 from rfl, vals_succ]
              have e2 : lin (downF 1 f w h k) wn (wn * j + i) = downF 1 f w h k i j := by
                have h8 := lin_idx (g := downF 1 f w h k) (w := wn) (x := (i : Int)) (y := (j : Int)) (by omega) (by omega) (by omega)
                rw [show ((j : Int) * (wn : Int) + (i : Int)).toNat = wn * j + i by rw [show (j : Int) * (wn : Int) + (i : Int) = ((wn * j + i : Nat) : Int) by push_cast; rw [Int.mul_comm]]; exact Int.toNat_natCast _] at h8
                exact h8
              rw [e2]
              exact hown2

set_option maxHeartbeats 4000000 in
set_option maxRecDepth 100000 in
theorem level_2 (g : Nat) (Fg : Nat → Prop) (w h : Int) (k : Nat) (f : Int → Int → Int) (W : World) (HG : GridAt W g Fg w h f) (hk : k < levs w h) (hmay : MayF f w h) :
    Calls Try.prog 24 #[.pointer (some ⟨g, 0, none⟩), .int .i64 k, .int .i64 2] W (LevelOut 2 f w h k W) := by
  obtain ⟨d1, d2, d3, d4⟩ := HG.dims
  have hL := levs_bd d1 d2 d3 d4
  have hk10 : k ≤ 10 := by omega
  have bw := lw_bd d1 k
  have bh := lw_bd d3 k
  obtain ⟨wn, hwn⟩ : ∃ wn : Nat, (wn : Int) = lw w k := ⟨(lw w k).toNat, by omega⟩
  obtain ⟨hn, hhn⟩ : ∃ hn : Nat, (hn : Int) = lw h k := ⟨(lw h k).toNat, by omega⟩
  have hwb : 1 ≤ wn ∧ wn ≤ 1024 := by omega
  have hhb : 1 ≤ hn ∧ hn ≤ 1024 := by omega
  have HWN := Lib.hid hwn
  have HHN := Lib.hid hhn
  have HMAY := Lib.hid hmay
  have HWAY := Lib.hid way2_ok
  have HCALL := Lib.hid way2_call
  have HK := Lib.hid hk
  clear hmay hL hk
  go_enter Try.func24, Try.ntmps24
  go_wp2_with fail
  refine (grid_Size_ok g Fg w h f _ HG).mono ?_
  rintro e w2 ⟨rfl, hb⟩
  have HG2 := HG.below hb
  have hB := hb
  clear hb HG
  go_wp2_with fail
  refine (tier_size_ok w h k _ d1 d2 d3 d4 HK.out).mono ?_
  rw [← HWN.out, ← HHN.out]
  rintro e w3 ⟨rfl, hb⟩
  have HG3 := HG2.below hb
  replace hB := below_next hB hb
  clear hb HG2 hwn hhn bw bh
  go_wp2_with fail
  refine (HWAY.out _).mono ?_
  rintro e w' ⟨rfl, rfl⟩
  have hnil := func_not_nil 100
  go_wp2_with fail
  clear hnil
  go_loopg [14, 45] hn (fun q v14 v45 wr => ∃ j : Nat, Hid (j + q = hn) ∧ v45 = .int .i64 (j : Int) ∧ wr.ownsRow w3.heap.size 2 1 v14 (wn * j) (vals (lin (downF 2 f w h k) wn) (wn * j)) ∧ Below w3.heap.size w3 wr)
  case atStart => exact ⟨0, Nat.zero_add _, rfl, by simpa [vals] using World.ownsRow_nil w3 w3.heap.size 2 1, Below.refl _ _⟩
  case round =>
    obtain ⟨j, hj, rfl, hown, hbr⟩ := hrel
    cases gk with
    | zero =>
      have ht : decide (j < hn) = false := decide_eq_false (by have := hj.out; omega)
      have ht2 : decide ((j : Int) < (hn : Int)) = false := decide_eq_false (by have := hj.out; omega)
      have ej : j = hn := hj.out
      subst ej
      have h11 := Nat.mul_le_mul hwb.1 hhb.1
      obtain ⟨k9, cap9, cs9, hv9, hc1, hc2, hc3, hc4⟩ := own_row hown (by omega)
      subst hv9
      have HR9 := Lib.hid (RowAt.of_blk hc3 (fun i hi => hc4 i _ (vals_get _ hi)))
      have hu : ∀ i, i < wn * j → -2147483648 ≤ lin (downF 2 f w h k) wn i ∧ lin (downF 2 f w h k) wn i ≤ 2147483647 := by
        intro i hi
        have hl := lin_at (w := wn) (h := j) (i := i) (by omega) (by have : ((wn * j : Nat) : Int) = wn * j := by { push_cast; rfl }; omega)
        unfold lin
        exact down_may HMAY.out _ _ hl.1 (by have := HWN.out; omega) hl.2.2.1 (by have := HHN.out; omega)
      have HU := Lib.hid hu
      have hB9 := below_next hB hbr
      have hsz9 := hB9.size
      clear hu hown hc1 hc2 hc3 hc4 h11 hj
      go_wp2_with fail
      refine (paint_From_ok wn j wr hwb.1 hwb.2 hhb.1 hhb.2 ⟨k9, 0, none⟩ cap9 (lin (downF 2 f w h k) wn) HU.out HR9.out).mono ?_
      rintro e w10 ⟨g2, F2, rfl, hb10, hF2, HG10⟩
      go_wp2_with fail
      go_ret2
      refine ⟨g2, F2, rfl, below_next hB9 hb10, fun t ht => Nat.le_trans hsz9 (hF2 t ht), ?_⟩
      rw [← HWN.out, ← HHN.out]
      exact HG10.congr (fun x y b0 b1 b2 b3 => (lin_idx b0 b1 b2).symm)
    | succ m =>
      have hjh : j < hn := by have := hj.out; omega
      have ht : decide (j < hn) = true := decide_eq_true hjh
      have ht2 : decide ((j : Int) < (hn : Int)) = true := decide_eq_true (by omega)
      go_wp2_with fail
      go_loopg [14, 49] wn (fun q v14 v49 wi => ∃ i : Nat, Hid (i + q = wn) ∧ v49 = .int .i64 (i : Int) ∧ wi.ownsRow w3.heap.size 2 1 v14 (wn * j + i) (vals (lin (downF 2 f w h k) wn) (wn * j + i)) ∧ Below w3.heap.size w3 wi)
      case atStart => exact ⟨0, Nat.zero_add _, rfl, hown, hbr⟩
      case round =>
        clear hown hbr
        obtain ⟨i, hi, rfl, hown, hbr⟩ := hrel
        cases gk with
        | zero =>
          have ht3 : decide (i < wn) = false := decide_eq_false (by have := hi.out; omega)
          have ht4 : decide ((i : Int) < (wn : Int)) = false := decide_eq_false (by have := hi.out; omega)
          go_wp2_with fail
          go_roundg m
          case measure => omega
          case rel =>
            have e : i = wn := hi.out
            rw [e] at hown
            exact ⟨j + 1, by have := hj.out; exact (show j + 1 + m = hn by omega), by first | rfl | (exact congrArg (Value.int .i64) (by push_cast; omega)), hown, hbr⟩
        | succ m2 =>
          have hiw : i < wn := by have := hi.out; omega
          have ht3 : decide (i < wn) = true := decide_eq_true hiw
          have ht4 : decide ((i : Int) < (wn : Int)) = true := decide_eq_true (by omega)
          have hx : (i : Int) < lw w k := by have := HWN.out; omega
          have hy : (j : Int) < lw h k := by have := HHN.out; omega
          have HXY := Lib.hid (And.intro hx hy)
          clear hx hy
          go_wp2_with fail
          refine (tier_span_ok w h i j k _ d1 d2 d3 d4 HK.out (by omega) HXY.out.1 (by omega) HXY.out.2).mono ?_
          have sx := spanN_eq (x := (i : Int)) (by omega) HXY.out.1
          have sy := spanN_eq (x := (j : Int)) (by omega) HXY.out.2
          obtain ⟨X0, hX0⟩ : ∃ X0, (i : Int) * 2 ^ k = X0 := ⟨_, rfl⟩
          obtain ⟨Y0, hY0⟩ : ∃ Y0, (j : Int) * 2 ^ k = Y0 := ⟨_, rfl⟩
          obtain ⟨X1, hX1⟩ : ∃ X1, imin (((i : Int) + 1) * 2 ^ k - 1) (w - 1) = X1 := ⟨_, rfl⟩
          obtain ⟨Y1, hY1⟩ : ∃ Y1, imin (((j : Int) + 1) * 2 ^ k - 1) (h - 1) = Y1 := ⟨_, rfl⟩
          obtain ⟨rw, hrw⟩ : ∃ rw, spanN w k i = rw := ⟨_, rfl⟩
          obtain ⟨rh, hrh⟩ : ∃ rh, spanN h k j = rh := ⟨_, rfl⟩
          rw [hX0, hX1, hrw] at sx
          rw [hY0, hY1, hrh] at sy
          rw [hX0, hX1, hY0, hY1]
          have HD : Hid (downF 2 f w h k i j = wayL 2 (rowG f X0 Y0 rw) (rw * rh)) := by
            show downF 2 f w h k i j = _
            unfold downF
            rw [hX0, hY0, hrw, hrh]
          clear hX0 hY0 hX1 hY1 hrw hrh
          rintro e w4 ⟨rfl, hb4⟩
          have hbr4 : Below w3.heap.size w3 w4 := hbr.trans (hb4.mono hbr.size)
          have hown4 := own_below hown hb4
          have nQ := blk_new w4 (.cells #[.int .i64 X0, .int .i64 Y0, .int .i64 X1, .int .i64 Y1] 45)
          have hb5 := below_alloc1 w4 (.cells #[.int .i64 X0, .int .i64 Y0, .int .i64 X1, .int .i64 Y1] 45)
          clear hb4 hbr hown
          go_wp2_with fail
          obtain ⟨w5, hw5⟩ : ∃ w5, w4.alloc (.cells #[.int .i64 X0, .int .i64 Y0, .int .i64 X1, .int .i64 Y1] 45) = w5 := ⟨_, rfl⟩
          rw [hw5] at nQ hb5 ⊢
          clear hw5
          have hbr5 : Below w3.heap.size w3 w5 := hbr4.trans (hb5.mono hbr4.size)
          have hown5 := own_below hown4 hb5
          clear hb5 hbr4 hown4 nQ
          refine (grid_Values_ok g Fg w h X0 Y0 X1 Y1 f w5 (HG3.below hbr5) sx.2.1 sx.2.2.1 sx.2.2.2.1 sy.2.1 sy.2.2.1 sy.2.2.2.1 rw rh sx.1 sy.1).mono ?_
          rintro e w6 ⟨k6, cap6, cs6, rfl, hcap6, hk6, hb6, hrow6, hcs6⟩
          have hbr6 : Below w3.heap.size w3 w6 := hbr5.trans (hb6.mono hbr5.size)
          have hown6 := own_below hown5 hb6
          have hR6 := Lib.hid (RowAt.of_blk hrow6 hcs6)
          have hmm := Nat.mul_le_mul (show rw ≤ 1024 by omega) (show rh ≤ 1024 by omega)
          have hm1 := Nat.mul_le_mul sx.2.2.2.2 sy.2.2.2.2
          have hnb : 1 ≤ rw * rh ∧ rw * rh ≤ 1048576 := by omega
          have HNB := Lib.hid hnb
          have HMR := Lib.hid (may_row HMAY.out sx.2.1 sx.2.2.2.1 sy.2.1 sy.2.2.2.1 sx.1 sy.1 sx.2.2.2.2)
          have hlen : wn * j + i < wn * hn := by
            have := Nat.mul_le_mul_left wn (show j + 1 ≤ hn by omega)
            rw [Nat.mul_add] at this
            omega
          have hlen2 : wn * hn ≤ 1048576 := Nat.mul_le_mul hwb.2 hhb.2
          have hlen3 : wn * j + i + 1 ≤ 1048576 := by omega
          have hsz := hbr6.size
          clear hb6 hrow6 hcs6 hcap6 hk6 hbr5 hown5 hmm hm1 hnb sx sy hlen hlen2
          go_wp2_with fail
          refine (HCALL.out ⟨k6, 0, none⟩ (rw * rh) cap6 _ w6 HNB.out.1 HNB.out.2 HMR.out hR6.out).mono ?_
          rw [← HD.out]
          rintro e w' ⟨rfl, rfl⟩
          go_wp2_with (at_builtin; refine append_el w3.heap.size rfl (.tmp 68) (.tmp 72) 22 2 _ 1 8 rfl Try.underlying22 info_int64 rfl (by omega) _ _ _ [.int .i64 (downF 2 f w h k i j)] rfl _ rfl rfl rfl ?_ hown6 hsz (by omega) (by omega) ?_)
          · intro u hu; simp at hu; subst hu; rfl
          · intro v1 w8 hown2 hb2
            have hbr8 := hbr6.trans hb2
            go_wp2_with fail
            go_roundg m2
            case measure => omega
            case rel =>
              refine ⟨i + 1, by have := hi.out; exact (show i + 1 + m2 = wn by omega), by first | rfl | (exact congrArg (Value.int .i64) (by push_cast; omega)), ?_, hbr8⟩
              rw [show wn * j + (i + 1) = wn * j + i + 1 from rfl, vals_succ]
              have e2 : lin (downF 2 f w h k) wn (wn * j + i) = downF 2 f w h k i j := by
                have h8 := lin_idx (g := downF 2 f w h k) (w := wn) (x := (i : Int)) (y := (j : Int)) (by omega) (by omega) (by omega)
                rw [show ((j : Int) * (wn : Int) + (i : Int)).toNat = wn * j + i by rw [show (j : Int) * (wn : Int) + (i : Int) = ((wn * j + i : Nat) : Int) by push_cast; rw [Int.mul_comm]]; exact Int.toNat_natCast _] at h8
                exact h8
              rw [e2]
              exact hown2

end Go.Proofs.Ytgofkgmhpnkchaa
/- down.Level where there is none. -/
set_option linter.unusedVariables false
set_option linter.unusedSimpArgs false
namespace Go.Proofs.Ytgofkgmhpnkchaa
open Go.RowKit

theorem way_any (how : Int) (W : World) : Calls Try.prog 59 #[.int .i64 how] W fun e W' => (∃ v, e = .returned v) ∧ W = W' := by
  by_cases h : 0 ≤ how ∧ how ≤ 2
  · rcases (by omega : how = 0 ∨ how = 1 ∨ how = 2) with rfl | rfl | rfl
    · exact (way0_ok W).mono fun _ _ hh => ⟨⟨_, hh.1⟩, hh.2⟩
    · exact (way1_ok W).mono fun _ _ hh => ⟨⟨_, hh.1⟩, hh.2⟩
    · exact (way2_ok W).mono fun _ _ hh => ⟨⟨_, hh.1⟩, hh.2⟩
  · exact (way_none how W h).mono fun _ _ hh => ⟨⟨_, hh.1⟩, hh.2⟩
theorem nil_is_nil (w : World) : (binOp BinOp.eql 116 .nilFunc .nilFunc).run Try.prog w = .ok (.bool true) w := by
  have h : ∀ d : Nat, (Op.equalIn (d + 1) 116 .nilFunc .nilFunc).run Try.prog w = .ok true w := fun d => by
    simp [Op.equalIn, run_underlying Try.underlying116]
  have h2 : (Op.equal 116 .nilFunc .nilFunc).run Try.prog w = .ok true w := h _
  simp [binOp, h2, Sem.run_bind, Sem.run_pure]

set_option maxHeartbeats 2000000 in
theorem level_bad (how k : Int) (g : Nat) (Fg : Nat → Prop) (w h : Int) (f : Int → Int → Int) (W : World) (HG : GridAt W g Fg w h f) (hbad : ¬ (0 ≤ k ∧ k < (levs w h : Int) ∧ 0 ≤ how ∧ how ≤ 2)) :
    Calls Try.prog 24 #[.pointer (some ⟨g, 0, none⟩), .int .i64 k, .int .i64 how] W fun e W' => e = .returned (.tuple #[.pointer none, .int .i64 11]) ∧ Below W.heap.size W W' := by
  obtain ⟨d1, d2, d3, d4⟩ := HG.dims
  go_enter Try.func24, Try.ntmps24
  go_wp2_with fail
  refine (grid_Size_ok g Fg w h f _ HG).mono ?_
  rintro e w2 ⟨rfl, hb⟩
  have hB := hb
  clear hb HG
  go_wp2_with fail
  by_cases hk : 0 ≤ k ∧ k < (levs w h : Int)
  · obtain ⟨m, rfl⟩ : ∃ m : Nat, k = m := ⟨k.toNat, by omega⟩
    refine (tier_size_ok w h m _ d1 d2 d3 d4 (by omega)).mono ?_
    rintro e w3 ⟨rfl, hb⟩
    replace hB := below_next hB hb
    have hhow : ¬ (0 ≤ how ∧ how ≤ 2) := by omega
    clear hb hbad hk
    go_wp2_with fail
    refine (way_none how _ hhow).mono ?_
    rintro e w' ⟨rfl, rfl⟩
    have hnn := nil_is_nil w3
    clear hhow
    go_wp2_with fail
    go_ret2
    exact ⟨rfl, hB⟩
  · refine (tier_size_bad w h k _ d1 d2 d3 d4 hk).mono ?_
    rintro e w3 ⟨rfl, hb⟩
    replace hB := below_next hB hb
    clear hb hbad hk
    go_wp2_with fail
    refine (way_any how _).mono ?_
    rintro e w' ⟨⟨v, rfl⟩, rfl⟩
    go_wp2_with fail
    go_ret2
    exact ⟨rfl, hB⟩

set_option maxHeartbeats 2000000 in
theorem same04_ok (ad ad2 : Addr) (n cap cap2 : Nat) (u : Nat → Int) (W : World) (n2 : n ≤ 1048576) (h1 : RowAt W ad n u) (h2 : RowAt W ad2 n u) :
    Calls Try.prog 62 #[.slice (some ad) n cap, .slice (some ad2) n cap2] W fun e W' => e = .returned (.bool true) ∧ Below W.heap.size W W' := by
  have H1 := Lib.hid h1
  have H2 := Lib.hid h2
  clear h1 h2
  go_enter Try.func62, Try.ntmps62
  go_wp2_with fail
  go_loopg [5] n (fun q v5 wr => ∃ j : Nat, Hid (j + q = n) ∧ v5 = .int .i64 (j : Int) ∧ Below W.heap.size W wr)
  case atStart => exact ⟨0, Nat.zero_add _, rfl, Below.refl _ _⟩
  case round =>
    obtain ⟨j, hj, rfl, hb⟩ := hrel
    cases gk with
    | zero =>
      have ht : decide (j < n) = false := decide_eq_false (by have := hj.out; omega)
      have ht2 : decide ((j : Int) < (n : Int)) = false := decide_eq_false (by have := hj.out; omega)
      go_wp2_with fail
      go_ret
      exact ⟨rfl, hb⟩
    | succ m =>
      have hlt : j < n := by have := hj.out; omega
      have ht : decide (j < n) = true := decide_eq_true hlt
      have ht2 : decide ((j : Int) < (n : Int)) = true := decide_eq_true (by omega)
      have hji : (j : Int) < (n : Int) := by omega
      have c1 := (H1.out.below hb) j hlt
      have c2 := (H2.out.below hb) j hlt
      have q1 := fun d os => cell_regrown c1 d os
      have q2 := fun d os => cell_regrown c2 d os
      go_wp2_with fail
      refine wp_quiet (by kernel_rfl) (by kernel_rfl) ?_
      repeat (go_big_quiet_step ((first | fail)))
      refine wpQuiet_nil ?_
      intro w3 hb3
      clear q1 q2 c1 c2
      go_wp2_with fail
      go_roundg m
      case measure => omega
      case rel => exact ⟨j + 1, by have := hj.out; exact (show j + 1 + m = n by omega), by first | rfl | (exact congrArg (Value.int .i64) (by push_cast; omega)), below_next hb hb3⟩

set_option maxHeartbeats 2000000 in
set_option maxRecDepth 100000 in
theorem is09_ok (g : Nat) (Fg : Nat → Prop) (w h : Int) (f : Int → Int → Int) (ad : Addr) (n cap : Nat) (W : World) (HG : GridAt W g Fg w h f) (hn : (n : Int) = w * h) (hr : RowAt W ad n (lin f w)) :
    Calls Try.prog 26 #[.pointer (some ⟨g, 0, none⟩), .agg #[.int .i64 w, .int .i64 h, .slice (some ad) n cap]] W fun e W' => e = .returned (.bool true) ∧ Below W.heap.size W W' := by
  obtain ⟨d1, d2, d3, d4⟩ := HG.dims
  obtain ⟨wn, rfl⟩ : ∃ wn : Nat, w = wn := ⟨w.toNat, by omega⟩
  obtain ⟨hh, rfl⟩ : ∃ hh : Nat, h = hh := ⟨h.toNat, by omega⟩
  have en : wn * hh = n := by have : ((wn * hh : Nat) : Int) = wn * hh := by { push_cast; rfl }; omega
  have EN := Lib.hid en
  have hb' := Nat.mul_le_mul (show wn ≤ 1024 by omega) (show hh ≤ 1024 by omega)
  have hnb : n ≤ 1048576 := by omega
  clear en hb' hn
  go_enter Try.func26, Try.ntmps26
  go_wp2_with fail
  have n0 := blk_new W (.cells #[.int .i64 (wn : Int), .int .i64 (hh : Int), .slice (some ad) n cap] 27)
  have hB := below_alloc1 W (.cells #[.int .i64 (wn : Int), .int .i64 (hh : Int), .slice (some ad) n cap] 27)
  have HG1 := HG.below hB
  refine (grid_Size_ok g Fg wn hh f _ HG1).mono ?_
  rintro e w2 ⟨rfl, hb⟩
  replace n0 := below_blk hb n0
  replace HG1 := HG1.below hb
  replace hB := below_next hB hb
  clear hb HG
  go_wp2_with fail
  refine (grid_All_ok g Fg wn hh f _ HG1).mono ?_
  rintro e w3 ⟨rfl, hb⟩
  replace n0 := below_blk hb n0
  replace HG1 := HG1.below hb
  replace hB := below_next hB hb
  clear hb
  go_wp2_with fail
  have hval := grid_Values_ok g Fg wn hh 0 0 ((wn : Int) - 1) ((hh : Int) - 1) f w3 HG1 (by omega) (by omega) (by omega) (by omega) (by omega) (by omega) wn hh (by omega) (by omega)
  rw [EN.out] at hval
  refine hval.mono ?_
  rintro e w4 ⟨k4, cap4, cs4, rfl, hcap4, hk4, hb4, hrow4, hcs4⟩
  replace n0 := below_blk hb4 n0
  replace hB := below_next hB hb4
  have hr4 : RowAt w4 ⟨k4, 0, none⟩ n (lin f wn) := RowAt.of_blk hrow4 (fun i hi => by
    rw [hcs4 i hi]
    show some (Value.int .i64 (f (0 + ((i % wn : Nat) : Int)) (0 + ((i / wn : Nat) : Int)))) = some (Value.int .i64 (f ((i : Int) % wn) ((i : Int) / wn)))
    rw [Int.zero_add, Int.zero_add, Int.natCast_emod, Int.natCast_ediv])
  have hrn := hr.below hB
  have HR4 := Lib.hid hr4
  have HRN := Lib.hid hrn
  clear hcs4 hrow4 hb4 hk4 hcap4 hr hrn hr4 hval
  have i_0 := cells_w n0 0 rfl
  have i_1 := cells_w n0 1 rfl
  have i_2 := cells_w n0 2 rfl
  go_wp2_with fail
  refine (same04_ok ⟨k4, 0, none⟩ ad n cap4 cap (lin f wn) w4 hnb HR4.out HRN.out).mono ?_
  rintro e w5 ⟨rfl, hb⟩
  go_wp2_with fail
  go_ret
  exact ⟨rfl, below_next hB hb⟩
end Go.Proofs.Ytgofkgmhpnkchaa

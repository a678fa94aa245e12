/- Texts of this claim, joined: Heal38. -/
import Derived.Test.YtfnflgcalhiamaaPackSz15
import Derived.Test.YtfnflgcalhiamaaPackSz18
/- audit.Heal. -/
set_option linter.unusedVariables false
set_option linter.unusedSimpArgs false
namespace Go.Proofs.Ytfnflgcalhiamaa
open Go.RowKit

theorem own_rep {W : World} {base n : Nat} {v : Value} {xs : List Value} {K X Y : Nat → Int} (H : W.ownsRow base 55 3 v n xs) (R : Rep xs n K X Y) :
    ∃ o cap k, v = .slice o n cap ∧ (0 < n → o = some ⟨k, 0, none⟩ ∧ base ≤ k) ∧ ∀ i, i < n → W.cell? ⟨k, i * 3, none⟩ = some (.int .i64 (K i)) ∧ W.cell? ⟨k, i * 3 + 1, none⟩ = some (.int .i64 (X i)) ∧ W.cell? ⟨k, i * 3 + 2, none⟩ = some (.int .i64 (Y i)) := by
  by_cases hn : 0 < n
  · obtain ⟨k, cap, cs, rfl, _, hk, hrow, hcs⟩ := own_rowS H hn
    exact ⟨_, cap, k, rfl, fun _ => ⟨rfl, hk⟩, fun i hi => by
      obtain ⟨a, b, c⟩ := R.2 i hi
      exact ⟨cells_w hrow _ (hcs _ _ a), cells_w hrow _ (hcs _ _ b), cells_w hrow _ (hcs _ _ c)⟩⟩
  · obtain ⟨_, ⟨rfl, h2⟩ | ⟨k, cap, cs, rfl, _⟩⟩ := H
    · subst h2
      exact ⟨none, 0, 0, rfl, fun h => by omega, fun i hi => by omega⟩
    · exact ⟨_, cap, k, rfl, fun h => absurd h hn, fun i hi => absurd (show 0 < n by omega) hn⟩
/-- Bounds of a land. -/
def Tight (f : Int → Int → Int) (w h : Nat) : Prop := ∀ x y : Int, 0 ≤ x → x < w → 0 ≤ y → y < h → -2147483648 ≤ f x y ∧ f x y ≤ 2147483648
theorem Tight.fen {f : Int → Int → Int} {w h : Nat} (H : Tight f w h) : FenB f w h := fun x y a b c d => by have := H x y a b c d; omega
theorem off_cell {f1 f2 : Int → Int → Int} {w h : Nat} {x y : Int} (a1 : 0 ≤ x) (a2 : x < w) (a3 : 0 ≤ y) (a4 : y < h) (hne : f2 x y ≠ f1 x y) : ∃ c, c < w * h ∧ offD f1 f2 w c = true ∧ ((c % w : Nat) : Int) = x ∧ ((c / w : Nat) : Int) = y := by
  obtain ⟨X, rfl⟩ : ∃ X : Nat, x = X := ⟨x.toNat, by omega⟩
  obtain ⟨Y, rfl⟩ : ∃ Y : Nat, y = Y := ⟨y.toNat, by omega⟩
  have hX : X < w := by omega
  have m1 : (Y * w + X) % w = X := by rw [Nat.mul_comm, Nat.mul_add_mod, Nat.mod_eq_of_lt hX]
  have m2 : (Y * w + X) / w = Y := by rw [Nat.mul_comm, Nat.mul_add_div (by omega), Nat.div_eq_of_lt hX]; rfl
  have hm := Nat.mul_le_mul_right w (show Y + 1 ≤ h by omega)
  rw [Nat.add_mul, Nat.mul_comm h w] at hm
  refine ⟨Y * w + X, by omega, ?_, by rw [m1], by rw [m2]⟩
  unfold offD
  rw [m1, m2]
  simp [hne]
/-- Healed. -/
def Healed (w h : Nat) (f1 : Int → Int → Int) (n p b A : Nat) (Fp : Nat → Prop) (W : World) (e : Ending) (W' : World) : Prop :=
  e = .returned (.tuple #[.int .i64 (n : Int), .int .i64 0]) ∧ Mod (fun k => Fp k ∨ k = A) W W' ∧ PyrAt W' p Fp w h f1 ∧ FenAt W' b A w h (fenS f1)
set_option maxHeartbeats 4000000 in
set_option maxRecDepth 100000 in
theorem heal_ok (g : Nat) (F : Nat → Prop) (w h : Nat) (f1 f2 f3 : Int → Int → Int) (p : Nat) (Fp : Nat → Prop) (b A : Nat) (W : World) (HG : GridAt W g F w h f1) (HP : PyrAt W p Fp w h f2) (HF : FenAt W b A w h (fenS f3)) (hB1 : Tight f1 w h) (hB3 : Tight f3 w h)
    (q1 : ∀ k, F k → ¬ Fp k) (q2 : ¬ F A) (q3 : ¬ Fp A) (q4 : ¬ Fp b) :
    Calls Try.prog 13 #[.pointer (some ⟨g, 0, none⟩), .pointer (some ⟨p, 0, none⟩), .pointer (some ⟨b, 0, none⟩)] W (Healed w h f1 (cnt (offD f1 f2 w) (w * h) + cnt (offD f1 f3 w) (w * h)) p b A Fp W) := by
  obtain ⟨d1, d2, d3, d4⟩ := HG.dims
  have hMb : w * h ≤ 1048576 := Nat.mul_le_mul (show w ≤ 1024 by omega) (show h ≤ 1024 by omega)
  have hc1 := cnt_le (offD f1 f2 w) (w * h)
  have hc2 := cnt_le (offD f1 f3 w) (w * h)
  obtain ⟨K, X, Y, hRep, hin, hk1, hk2⟩ := fnd_both (offD f1 f2 w) (offD f1 f3 w) w (w * h)
  have HB1 := Lib.hid hB1
  have HB3 := Lib.hid hB3
  go_enter Try.func13, Try.ntmps13
  go_wp2_with fail
  refine (audit_Check_ok g F w h f1 f2 f3 p Fp b A W HG HP HF hB3.fen).mono ?_
  rintro e W2 ⟨v, base, rfl, hbase, hown, hb⟩
  obtain ⟨n, hn⟩ : ∃ n, cnt (offD f1 f2 w) (w * h) + cnt (offD f1 f3 w) (w * h) = n := ⟨_, rfl⟩
  rw [hn] at hown hRep hin hk1 hk2 ⊢
  obtain ⟨o, cap, k, rfl, ho, hcells⟩ := own_rep hown hRep
  have hbnd : ∀ i, i < n → 0 ≤ X i ∧ X i < w ∧ 0 ≤ Y i ∧ Y i < h := fun i hi => by
    obtain ⟨c, c1, c2, c3⟩ := hin i hi
    have e1 := Nat.mod_lt c (show 0 < w by omega)
    have e2 := Nat.div_lt_of_lt_mul c1
    rw [c2, c3]
    obtain ⟨I, hI⟩ : ∃ I, c % w = I := ⟨_, rfl⟩
    obtain ⟨J, hJ⟩ : ∃ J, c / w = J := ⟨_, rfl⟩
    rw [hI, hJ]
    rw [hI] at e1
    rw [hJ] at e2
    clear hI hJ hB1 hB3 HB1 HB3
    omega
  have hnb : n ≤ 2097152 := by omega
  have HGW := HG
  have HPW := HP
  have HFW := HF
  replace HG := HG.below hb
  replace HP := HP.below hb
  replace HF := HF.below hb
  have HIN := Lib.hid hbnd
  have HK1 := Lib.hid hk1
  have HK2 := Lib.hid hk2
  have HC := Lib.hid hcells
  have HO := Lib.hid ho
  have HN := Lib.hid hn
  have HBW := Lib.hid hb
  clear hown hRep hin hk1 hk2 hcells hbnd hb hn hB1 hB3 hc1 hc2
  go_wp2_with fail
  refine (where38_ok n cap k w h o K X Y 1 W2 (by omega) (by omega) (by omega) (fun z => (HO.out z).1) HC.out HIN.out).mono ?_
  rintro e W3 ⟨x0, y0, x1, y1, ok, rfl, hb, hno, hyes⟩
  have HDJ : Hid ((∀ k, F k → ¬ Fp k) ∧ ¬ F A ∧ ¬ Fp A ∧ ¬ Fp b ∧ A < W.heap.size) := ⟨q1, q2, q3, q4, HFW.lt.2⟩
  have HAk : Hid (0 < n → W.heap.size ≤ k) := fun z => by have := (HO.out z).2; omega
  have HPlt : Hid (∀ t, Fp t → t < W.heap.size) := fun t ht => by
    obtain ⟨A', cap', ps', s', HR'⟩ := HPW
    exact HR'.lt t ht
  have hB3 := below_next HBW.out hb
  replace HG := HG.below hb
  replace HP := HP.below hb
  replace HF := HF.below hb
  have HC3 : Hid (∀ i, i < n → W3.cell? ⟨k, i * 3, none⟩ = some (.int .i64 (K i)) ∧ W3.cell? ⟨k, i * 3 + 1, none⟩ = some (.int .i64 (X i)) ∧ W3.cell? ⟨k, i * 3 + 2, none⟩ = some (.int .i64 (Y i))) := fun i hi => ⟨below_cell hb (HC.out i hi).1, below_cell hb (HC.out i hi).2.1, below_cell hb (HC.out i hi).2.2⟩
  have HNO := Lib.hid hno
  have HYES := Lib.hid hyes
  clear hno hyes hb HC q1 q2 q3 q4
  have hFk : ∀ t, 0 < n → t = k → ¬ Fp t := fun t hn0 e ht => by have := HPlt.out t ht; have := HAk.out hn0; omega
  have HFK := Lib.hid hFk
  clear hFk HPW HGW HFW
  cases ok with
  | false =>
    obtain ⟨W4, hW4⟩ : ∃ W4, W3.alloc (.cells #[.int .i64 x0, .int .i64 y0, .int .i64 x1, .int .i64 y1] 71) = W4 := ⟨_, rfl⟩
    have hb4 := below_alloc1 W3 (.cells #[.int .i64 x0, .int .i64 y0, .int .i64 x1, .int .i64 y1] 71)
    rw [hW4] at hb4
    have HM4 : Hid (Mod (fun t => Fp t ∨ t = A) W W4) := Mod.of_below (below_next hB3 hb4)
    have HG4 := Lib.hid (HG.below hb4)
    have HF4 : Hid (FenAt W4 b A w h (fenS (healF f1 f3 K X Y 0))) := HF.below hb4
    have HC4 : Hid (∀ i, i < n → W4.cell? ⟨k, i * 3, none⟩ = some (.int .i64 (K i)) ∧ W4.cell? ⟨k, i * 3 + 1, none⟩ = some (.int .i64 (X i)) ∧ W4.cell? ⟨k, i * 3 + 2, none⟩ = some (.int .i64 (Y i))) := fun i hi => ⟨below_cell hb4 (HC3.out i hi).1, below_cell hb4 (HC3.out i hi).2.1, below_cell hb4 (HC3.out i hi).2.2⟩
    have HP4 : Hid (PyrAt W4 p Fp w h f1) := (HP.below hb4).congr (fun a c b1 b2 b3 b4 => by
      by_cases e : f2 a c = f1 a c
      · exact e.symm
      · obtain ⟨c', c1, c2, c3, c4⟩ := off_cell b1 b2 b3 b4 e
        obtain ⟨i, i1, i2, _⟩ := HK1.out c' c1 c2
        exact absurd i2 (HNO.out rfl i i1))
    clear HP HG HF HC3 hB3 hb4
    go_wp2_with fail
    try rw [hW4]
    clear hW4
    go_loopg [40] n (fun q v40 wr => ∃ j : Nat, Hid (j + q = n) ∧ v40 = .int .i64 (j : Int) ∧ Mod (fun t => t = A) W4 wr ∧ Hid (FenAt wr b A w h (fenS (healF f1 f3 K X Y j))))
    case atStart => exact ⟨0, Nat.zero_add _, rfl, Mod.refl _ _, HF4⟩
    case round =>
      clear HF4
      obtain ⟨j, hj, rfl, hmod, HFj⟩ := hrel
      cases gk with
      | zero =>
        have ht : decide (j < n) = false := decide_eq_false (by have := hj.out; omega)
        have ht2 : decide ((j : Int) < (n : Int)) = false := decide_eq_false (by have := hj.out; omega)
        go_wp2_with fail
        go_ret2
        have ej : n = j := (show j = n from hj.out).symm
        refine ⟨by rw [HN.out]; rfl, HM4.out.trans hmod (fun t z => .inl (.inr z)), HP4.out.mod hmod (fun t z z2 => HDJ.out.2.2.1 (by rw [← z2]; exact z)), HFj.out.congr (fun x y a1 a2 a3 a4 => ?_)⟩
        refine fenS_congr (w := (w : Int)) (h := (h : Int)) (fun X0 Y0 b1 b2 b3 b4 => ?_) (by omega) (by omega)
        rcases healF_is f1 f3 K X Y X0 Y0 j with z | ⟨z, z2⟩
        · exact z.symm
        · by_cases e : f3 X0 Y0 = f1 X0 Y0
          · rw [z, e]
          · obtain ⟨c, c1, c2, c3, c4⟩ := off_cell b1 b2 b3 b4 e
            obtain ⟨i, i1, i2, i3, i4⟩ := HK2.out c c1 c2
            exact absurd ⟨i2, by rw [i3, c3], by rw [i4, c4]⟩ (z2 i (by omega))
      | succ m =>
        have hjn : j < n := by have := hj.out; omega
        have ht : decide (j < n) = true := decide_eq_true hjn
        have ht2 : decide ((j : Int) < (n : Int)) = true := decide_eq_true (by omega)
        have hjI : (j : Int) < (n : Int) := by omega
        obtain ⟨rfl, hkb⟩ := HO.out (by omega)
        obtain ⟨a0, a1, a2⟩ := HC4.out j hjn
        replace a0 := hmod.cell a0 (fun z => by have := HDJ.out.2.2.2.2; have := HAk.out; have z2 : k = A := z; omega)
        replace a1 := hmod.cell a1 (fun z => by have := HDJ.out.2.2.2.2; have := HAk.out; have z2 : k = A := z; omega)
        replace a2 := hmod.cell a2 (fun z => by have := HDJ.out.2.2.2.2; have := HAk.out; have z2 : k = A := z; omega)
        by_cases hk : K j = 2
        rotate_left
        · have t1 : (K j != 2) = true := by simp [hk]
          have HS := Lib.hid (heal_same (f1 := f1) (f3 := f3) (X := X) (Y := Y) hk)
          go_wp2_with fail
          have r_B := (below_alloc1 wr (.cells #[.int .i64 (K j), .int .i64 (X j), .int .i64 (Y j)] 55))
          have r_0 : (wr.alloc (.cells #[.int .i64 (K j), .int .i64 (X j), .int .i64 (Y j)] 55)).heap[wr.heap.size]? = some (.cells #[.int .i64 (K j), .int .i64 (X j), .int .i64 (Y j)] 55) := (blk_new_at (W := wr) (o := .cells #[.int .i64 (K j), .int .i64 (X j), .int .i64 (Y j)] 55) (by simp))
          obtain ⟨Wb, hWb⟩ : ∃ Wb, (wr.alloc (.cells #[.int .i64 (K j), .int .i64 (X j), .int .i64 (Y j)] 55)) = Wb := ⟨_, rfl⟩
          rw [hWb] at r_0 r_B ⊢
          clear hWb
          go_roundg m
          case measure => omega
          case rel => exact ⟨j + 1, by have := hj.out; exact (show j + 1 + m = n by omega), congrArg (Value.int .i64) (by push_cast; omega), hmod.then_below r_B, by rw [HS.out]; exact HFj.out.below r_B⟩
        · rw [hk] at a0
          obtain ⟨x1', x2', y1', y2'⟩ := HIN.out j hjn
          obtain ⟨x, hx⟩ : ∃ x : Nat, X j = x := ⟨(X j).toNat, by omega⟩
          obtain ⟨y, hy⟩ : ∃ y : Nat, Y j = y := ⟨(Y j).toNat, by omega⟩
          have HBM := Lib.hid (heal_bump (f1 := f1) (f3 := f3) hk hx hy)
          rw [hx] at a1 x1' x2'
          rw [hy] at a2 y1' y2'
          have hvv := healF_is f1 f3 K X Y x y j
          have hb1 := HB1.out x y x1' x2' y1' y2'
          have hb3 := HB3.out x y x1' x2' y1' y2'
          have hFB : FenB (healF f1 f3 K X Y j) w h := fun x y b1 b2 b3 b4 => by
            have := HB1.out x y b1 b2 b3 b4
            have := HB3.out x y b1 b2 b3 b4
            rcases healF_is f1 f3 K X Y x y j with z | ⟨z, _⟩ <;> omega
          obtain ⟨v1, hv1⟩ : ∃ v, f1 x y = v := ⟨_, rfl⟩
          obtain ⟨v3, hv3⟩ : ∃ v, healF f1 f3 K X Y j x y = v := ⟨_, rfl⟩
          have hv3b : -2147483648 ≤ v3 ∧ v3 ≤ 2147483648 := by
            rcases hvv with z | ⟨z, _⟩ <;> omega
          rw [hv1] at hb1
          have wv : wrap64 (v1 - v3) = v1 - v3 := wrap64_id (by omega) (by omega)
          have hgA := fun W' H => grid_At_any g F w h x y f1 W' H
          rw [atV_in (w := (w : Int)) (h := (h : Int)) ⟨x1', x2', y1', y2'⟩, atC_in (w := (w : Int)) (h := (h : Int)) ⟨x1', x2', y1', y2'⟩, hv1] at hgA
          have hfA := fun W' H => fen_at0 b A w h (healF f1 f3 K X Y j) x y W' H hFB x1' x2' y1' y2'
          rw [hv3] at hfA
          have hfD := fun W' H => fen_Add_ok b A w h (healF f1 f3 K X Y j) x y (v1 - v3) W' H hFB (by omega) (by omega) (by omega) (by rw [hv3]; omega)
          rw [hv1, hv3] at HBM
          have HGA := Lib.hid hgA
          have HFA := Lib.hid hfA
          have HFD := Lib.hid hfD
          have HGr := Lib.hid (HG4.out.mod hmod (fun t z z2 => HDJ.out.2.1 (by rw [← z2]; exact z)))
          clear hgA hfA hfD hvv hb1 hb3 hFB hv1 hv3 hx hy hk hv3b
          go_wp2_with fail
          have r_B := (below_alloc1 wr (.cells #[.int .i64 2, .int .i64 (x : Int), .int .i64 (y : Int)] 55))
          have r_0 : (wr.alloc (.cells #[.int .i64 2, .int .i64 (x : Int), .int .i64 (y : Int)] 55)).heap[wr.heap.size]? = some (.cells #[.int .i64 2, .int .i64 (x : Int), .int .i64 (y : Int)] 55) := (blk_new_at (W := wr) (o := .cells #[.int .i64 2, .int .i64 (x : Int), .int .i64 (y : Int)] 55) (by simp))
          obtain ⟨Wb, hWb⟩ : ∃ Wb, (wr.alloc (.cells #[.int .i64 2, .int .i64 (x : Int), .int .i64 (y : Int)] 55)) = Wb := ⟨_, rfl⟩
          rw [hWb] at r_0 r_B ⊢
          clear hWb
          refine (HGA.out Wb (HGr.out.below r_B)).mono ?_
          rintro e W5 ⟨rfl, hb⟩
          have hFr := (HFj.out.below r_B).below hb
          have hM5 := (hmod.then_below r_B).then_below hb
          have r5 := below_blk hb r_0
          clear hb r_B r_0 HGA HGr
          have i_0 := cells_w r5 0 rfl
          have i_1 := cells_w r5 1 rfl
          have i_2 := cells_w r5 2 rfl
          go_wp2_with fail
          refine (HFA.out W5 hFr).mono ?_
          rintro e W6 ⟨rfl, hb⟩
          replace hFr := hFr.below hb
          replace hM5 := hM5.then_below hb
          replace r5 := below_blk hb r5
          clear hb i_0 i_1 i_2 HFA
          have i_0 := cells_w r5 0 rfl
          have i_1 := cells_w r5 1 rfl
          have i_2 := cells_w r5 2 rfl
          go_wp2_with fail
          refine (HFD.out W6 hFr).mono ?_
          rintro e W7 ⟨rfl, hmA, hF7⟩
          rw [HBM.out] at hF7
          have hM7 := hM5.trans hmA (fun t z => .inl z)
          clear hmA hM5 hFr r5 i_0 i_1 i_2 HFD
          go_wp2_with fail
          go_roundg m
          case measure => omega
          case rel => exact ⟨j + 1, by have := hj.out; exact (show j + 1 + m = n by omega), congrArg (Value.int .i64) (by push_cast; omega), hM7, hF7⟩
  | true =>
    obtain ⟨⟨s1, s2, s3, s4, s5, s6⟩, hcov⟩ := HYES.out rfl
    have HCOV := Lib.hid hcov
    clear hcov
    go_wp2_with fail
    have r_B := (below_alloc1 W3 (.cells #[.int .i64 x0, .int .i64 y0, .int .i64 x1, .int .i64 y1] 71))
    have r_0 : (W3.alloc (.cells #[.int .i64 x0, .int .i64 y0, .int .i64 x1, .int .i64 y1] 71)).heap[W3.heap.size]? = some (.cells #[.int .i64 x0, .int .i64 y0, .int .i64 x1, .int .i64 y1] 71) := (blk_new_at (W := W3) (o := .cells #[.int .i64 x0, .int .i64 y0, .int .i64 x1, .int .i64 y1] 71) (by simp))
    obtain ⟨W3a, hW3a⟩ : ∃ W3a, (W3.alloc (.cells #[.int .i64 x0, .int .i64 y0, .int .i64 x1, .int .i64 y1] 71)) = W3a := ⟨_, rfl⟩
    rw [hW3a] at r_0 r_B ⊢
    clear hW3a
    refine (repair_ok p Fp g F w h x0 y0 x1 y1 f1 f2 W3a (HP.below r_B) (HG.below r_B) s1 s2 s3 s4 s5 s6).mono ?_
    rintro e W4 ⟨rfl, hm, hP⟩
    have HM4 : Hid (Mod (fun t => Fp t ∨ t = A) W W4) := (Mod.of_below (below_next hB3 r_B)).trans hm (fun t z => .inl (.inl z))
    have HG4 := Lib.hid ((HG.below r_B).mod hm HDJ.out.1)
    have HF4 : Hid (FenAt W4 b A w h (fenS (healF f1 f3 K X Y 0))) := (HF.below r_B).mod hm HDJ.out.2.2.2.1 HDJ.out.2.2.1
    have HC4 : Hid (∀ i, i < n → W4.cell? ⟨k, i * 3, none⟩ = some (.int .i64 (K i)) ∧ W4.cell? ⟨k, i * 3 + 1, none⟩ = some (.int .i64 (X i)) ∧ W4.cell? ⟨k, i * 3 + 2, none⟩ = some (.int .i64 (Y i))) := fun i hi => ⟨hm.cell (below_cell r_B (HC3.out i hi).1) (HFK.out k (by omega) rfl), hm.cell (below_cell r_B (HC3.out i hi).2.1) (HFK.out k (by omega) rfl), hm.cell (below_cell r_B (HC3.out i hi).2.2) (HFK.out k (by omega) rfl)⟩
    have HP4 : Hid (PyrAt W4 p Fp w h f1) := hP.congr (fun a c b1 b2 b3 b4 => by
      by_cases e : f2 a c = f1 a c
      · unfold mixF
        split
        · rfl
        · exact e.symm
      · obtain ⟨c', c1, c2, c3, c4⟩ := off_cell b1 b2 b3 b4 e
        obtain ⟨i, i1, i2, i3, i4⟩ := HK1.out c' c1 c2
        have z := HCOV.out i i1 i2
        rw [i3, i4, c3, c4] at z
        exact (mix_in z).symm)
    clear HP HG HF HC3 hB3 hm hP r_0 r_B
    go_wp2_with fail
    go_loopg [40] n (fun q v40 wr => ∃ j : Nat, Hid (j + q = n) ∧ v40 = .int .i64 (j : Int) ∧ Mod (fun t => t = A) W4 wr ∧ Hid (FenAt wr b A w h (fenS (healF f1 f3 K X Y j))))
    case atStart => exact ⟨0, Nat.zero_add _, rfl, Mod.refl _ _, HF4⟩
    case round =>
      clear HF4
      obtain ⟨j, hj, rfl, hmod, HFj⟩ := hrel
      cases gk with
      | zero =>
        have ht : decide (j < n) = false := decide_eq_false (by have := hj.out; omega)
        have ht2 : decide ((j : Int) < (n : Int)) = false := decide_eq_false (by have := hj.out; omega)
        go_wp2_with fail
        go_ret2
        have ej : n = j := (show j = n from hj.out).symm
        refine ⟨by rw [HN.out]; rfl, HM4.out.trans hmod (fun t z => .inl (.inr z)), HP4.out.mod hmod (fun t z z2 => HDJ.out.2.2.1 (by rw [← z2]; exact z)), HFj.out.congr (fun x y a1 a2 a3 a4 => ?_)⟩
        refine fenS_congr (w := (w : Int)) (h := (h : Int)) (fun X0 Y0 b1 b2 b3 b4 => ?_) (by omega) (by omega)
        rcases healF_is f1 f3 K X Y X0 Y0 j with z | ⟨z, z2⟩
        · exact z.symm
        · by_cases e : f3 X0 Y0 = f1 X0 Y0
          · rw [z, e]
          · obtain ⟨c, c1, c2, c3, c4⟩ := off_cell b1 b2 b3 b4 e
            obtain ⟨i, i1, i2, i3, i4⟩ := HK2.out c c1 c2
            exact absurd ⟨i2, by rw [i3, c3], by rw [i4, c4]⟩ (z2 i (by omega))
      | succ m =>
        have hjn : j < n := by have := hj.out; omega
        have ht : decide (j < n) = true := decide_eq_true hjn
        have ht2 : decide ((j : Int) < (n : Int)) = true := decide_eq_true (by omega)
        have hjI : (j : Int) < (n : Int) := by omega
        obtain ⟨rfl, hkb⟩ := HO.out (by omega)
        obtain ⟨a0, a1, a2⟩ := HC4.out j hjn
        replace a0 := hmod.cell a0 (fun z => by have := HDJ.out.2.2.2.2; have := HAk.out; have z2 : k = A := z; omega)
        replace a1 := hmod.cell a1 (fun z => by have := HDJ.out.2.2.2.2; have := HAk.out; have z2 : k = A := z; omega)
        replace a2 := hmod.cell a2 (fun z => by have := HDJ.out.2.2.2.2; have := HAk.out; have z2 : k = A := z; omega)
        by_cases hk : K j = 2
        rotate_left
        · have t1 : (K j != 2) = true := by simp [hk]
          have HS := Lib.hid (heal_same (f1 := f1) (f3 := f3) (X := X) (Y := Y) hk)
          go_wp2_with fail
          have r_B := (below_alloc1 wr (.cells #[.int .i64 (K j), .int .i64 (X j), .int .i64 (Y j)] 55))
          have r_0 : (wr.alloc (.cells #[.int .i64 (K j), .int .i64 (X j), .int .i64 (Y j)] 55)).heap[wr.heap.size]? = some (.cells #[.int .i64 (K j), .int .i64 (X j), .int .i64 (Y j)] 55) := (blk_new_at (W := wr) (o := .cells #[.int .i64 (K j), .int .i64 (X j), .int .i64 (Y j)] 55) (by simp))
          obtain ⟨Wb, hWb⟩ : ∃ Wb, (wr.alloc (.cells #[.int .i64 (K j), .int .i64 (X j), .int .i64 (Y j)] 55)) = Wb := ⟨_, rfl⟩
          rw [hWb] at r_0 r_B ⊢
          clear hWb
          go_roundg m
          case measure => omega
          case rel => exact ⟨j + 1, by have := hj.out; exact (show j + 1 + m = n by omega), congrArg (Value.int .i64) (by push_cast; omega), hmod.then_below r_B, by rw [HS.out]; exact HFj.out.below r_B⟩
        · rw [hk] at a0
          obtain ⟨x1', x2', y1', y2'⟩ := HIN.out j hjn
          obtain ⟨x, hx⟩ : ∃ x : Nat, X j = x := ⟨(X j).toNat, by omega⟩
          obtain ⟨y, hy⟩ : ∃ y : Nat, Y j = y := ⟨(Y j).toNat, by omega⟩
          have HBM := Lib.hid (heal_bump (f1 := f1) (f3 := f3) hk hx hy)
          rw [hx] at a1 x1' x2'
          rw [hy] at a2 y1' y2'
          have hvv := healF_is f1 f3 K X Y x y j
          have hb1 := HB1.out x y x1' x2' y1' y2'
          have hb3 := HB3.out x y x1' x2' y1' y2'
          have hFB : FenB (healF f1 f3 K X Y j) w h := fun x y b1 b2 b3 b4 => by
            have := HB1.out x y b1 b2 b3 b4
            have := HB3.out x y b1 b2 b3 b4
            rcases healF_is f1 f3 K X Y x y j with z | ⟨z, _⟩ <;> omega
          obtain ⟨v1, hv1⟩ : ∃ v, f1 x y = v := ⟨_, rfl⟩
          obtain ⟨v3, hv3⟩ : ∃ v, healF f1 f3 K X Y j x y = v := ⟨_, rfl⟩
          have hv3b : -2147483648 ≤ v3 ∧ v3 ≤ 2147483648 := by
            rcases hvv with z | ⟨z, _⟩ <;> omega
          rw [hv1] at hb1
          have wv : wrap64 (v1 - v3) = v1 - v3 := wrap64_id (by omega) (by omega)
          have hgA := fun W' H => grid_At_any g F w h x y f1 W' H
          rw [atV_in (w := (w : Int)) (h := (h : Int)) ⟨x1', x2', y1', y2'⟩, atC_in (w := (w : Int)) (h := (h : Int)) ⟨x1', x2', y1', y2'⟩, hv1] at hgA
          have hfA := fun W' H => fen_at0 b A w h (healF f1 f3 K X Y j) x y W' H hFB x1' x2' y1' y2'
          rw [hv3] at hfA
          have hfD := fun W' H => fen_Add_ok b A w h (healF f1 f3 K X Y j) x y (v1 - v3) W' H hFB (by omega) (by omega) (by omega) (by rw [hv3]; omega)
          rw [hv1, hv3] at HBM
          have HGA := Lib.hid hgA
          have HFA := Lib.hid hfA
          have HFD := Lib.hid hfD
          have HGr := Lib.hid (HG4.out.mod hmod (fun t z z2 => HDJ.out.2.1 (by rw [← z2]; exact z)))
          clear hgA hfA hfD hvv hb1 hb3 hFB hv1 hv3 hx hy hk hv3b
          go_wp2_with fail
          have r_B := (below_alloc1 wr (.cells #[.int .i64 2, .int .i64 (x : Int), .int .i64 (y : Int)] 55))
          have r_0 : (wr.alloc (.cells #[.int .i64 2, .int .i64 (x : Int), .int .i64 (y : Int)] 55)).heap[wr.heap.size]? = some (.cells #[.int .i64 2, .int .i64 (x : Int), .int .i64 (y : Int)] 55) := (blk_new_at (W := wr) (o := .cells #[.int .i64 2, .int .i64 (x : Int), .int .i64 (y : Int)] 55) (by simp))
          obtain ⟨Wb, hWb⟩ : ∃ Wb, (wr.alloc (.cells #[.int .i64 2, .int .i64 (x : Int), .int .i64 (y : Int)] 55)) = Wb := ⟨_, rfl⟩
          rw [hWb] at r_0 r_B ⊢
          clear hWb
          refine (HGA.out Wb (HGr.out.below r_B)).mono ?_
          rintro e W5 ⟨rfl, hb⟩
          have hFr := (HFj.out.below r_B).below hb
          have hM5 := (hmod.then_below r_B).then_below hb
          have r5 := below_blk hb r_0
          clear hb r_B r_0 HGA HGr
          have i_0 := cells_w r5 0 rfl
          have i_1 := cells_w r5 1 rfl
          have i_2 := cells_w r5 2 rfl
          go_wp2_with fail
          refine (HFA.out W5 hFr).mono ?_
          rintro e W6 ⟨rfl, hb⟩
          replace hFr := hFr.below hb
          replace hM5 := hM5.then_below hb
          replace r5 := below_blk hb r5
          clear hb i_0 i_1 i_2 HFA
          have i_0 := cells_w r5 0 rfl
          have i_1 := cells_w r5 1 rfl
          have i_2 := cells_w r5 2 rfl
          go_wp2_with fail
          refine (HFD.out W6 hFr).mono ?_
          rintro e W7 ⟨rfl, hmA, hF7⟩
          rw [HBM.out] at hF7
          have hM7 := hM5.trans hmA (fun t z => .inl z)
          clear hmA hM5 hFr r5 i_0 i_1 i_2 HFD
          go_wp2_with fail
          go_roundg m
          case measure => omega
          case rel => exact ⟨j + 1, by have := hj.out; exact (show j + 1 + m = n by omega), congrArg (Value.int .i64) (by push_cast; omega), hM7, hF7⟩
end Go.Proofs.Ytfnflgcalhiamaa

/- Texts of this claim, joined: Awake38, LandOk, Made, Over. -/
import Derived.Test.YtfnflgcalhiamaaPackSz1
import Derived.Test.YtfnflgcalhiamaaPackSz13
import Derived.Test.YtfnflgcalhiamaaPackSz14
import Derived.Test.YtfnflgcalhiamaaPackSz15
/- hachurelaw38.awake: the chapter's example. -/
set_option linter.unusedVariables false
set_option linter.unusedSimpArgs false
namespace Go.Proofs.Ytfnflgcalhiamaa
open Go.RowKit

def ex38 : Nat → Int := fun i => if i = 0 then 1 else if i = 1 then 2 else if i = 2 then 3 else 4
def ex38f : Int → Int → Int := fun x y => ex38 ((y * ((2 : Nat) : Int) + x).toNat)
theorem only1 (d : Nat → Bool) (h0 : d 0 = false) (h1 : d 1 = true) (h2 : d 2 = false) (h3 : d 3 = false) (k : Int) : cnt d (2 * 2) = 1 ∧ fnd k d 2 (2 * 2) = [.int .i64 k, .int .i64 1, .int .i64 0] := by
  constructor
  · simp [cnt, h0, h1, h2, h3]
  · simp [fnd, h0, h1, h2, h3]
theorem ex38_off (k : Int) : cnt (offD (fillF ex38f 1 0 1 0 9) ex38f 2) (2 * 2) = 1 ∧ fnd k (offD (fillF ex38f 1 0 1 0 9) ex38f 2) 2 (2 * 2) = [.int .i64 k, .int .i64 1, .int .i64 0] := by
  refine only1 _ ?_ ?_ ?_ ?_ k <;> decide +kernel

set_option maxHeartbeats 2000000 in
set_option maxRecDepth 100000 in
theorem awake38_ok (W : World) : Calls Try.prog 5 #[] W fun e W' => e = .returned (.bool true) ∧ Below W.heap.size W W' := by
  go_enter Try.func5, Try.ntmps5
  go_wp2_with fail
  have n1 := blk_new W (.cells #[.int .i64 1, .int .i64 2, .int .i64 3, .int .i64 4] 2)
  have hrow : RowAt (W.alloc (.cells #[.int .i64 1, .int .i64 2, .int .i64 3, .int .i64 4] 2)) ⟨W.heap.size, 0, none⟩ (2 * 2) ex38 := RowAt.of_blk n1 (fun i hi => by
    rcases (by omega : i = 0 ∨ i = 1 ∨ i = 2 ∨ i = 3) with rfl | rfl | rfl | rfl <;> rfl)
  refine (paint_From_ok 2 2 _ (by omega) (by omega) (by omega) (by omega) ⟨W.heap.size, 0, none⟩ 4 ex38 (fun j hj => by unfold ex38; split <;> (try split) <;> (try split) <;> omega) hrow).mono ?_
  rintro e w2 ⟨g, F, rfl, hb, hF, HG⟩
  have hB := below_next (below_alloc1 W _) hb
  have hFW : ∀ k, F k → W.heap.size ≤ k := fun k hk => by have := hF k hk; simp only [alloc_size] at this; omega
  replace HG : GridAt w2 g F ((2 : Nat) : Int) ((2 : Nat) : Int) ex38f := HG
  have hbd : FenB ex38f 2 2 := fun x y _ _ _ _ => by
    unfold ex38f ex38
    split <;> (try split) <;> (try split) <;> omega
  clear hb hrow n1 hF
  go_wp2_with fail
  refine (build_ok g F _ _ _ w2 HG).mono ?_
  rintro e w3 ⟨p, Fp, rfl, hb, hFp, HP⟩
  have hFlt : ∀ k, F k → k < w2.heap.size := fun k hk => HG.lt k hk
  replace HG := HG.below hb
  have hs3 := hb.size
  have hs2 := hB.size
  replace hB := below_next hB hb
  clear hb
  go_wp2_with fail
  refine (fen_Of_ok g F 2 2 ex38f w3 HG hbd).mono ?_
  rintro e w4 ⟨b, A, rfl, hb, hb1, hA1, HN⟩
  replace HG := HG.below hb
  replace HP := HP.below hb
  replace hB := below_next hB hb
  clear hb
  go_wp2_with fail
  refine (grid_Set_ok g F _ _ 1 0 9 ex38f w4 HG (by omega) (by omega) (by omega) (by omega) (by omega) (by omega)).mono ?_
  rintro e w5 ⟨F2, rfl, hM, hF2, HG⟩
  have HP5 := HP.mod hM (fun k hk h2 => by have := hFp k hk; have := hFlt k h2; omega)
  have HN5 := HN.mod hM (fun h2 => by have := hFlt _ h2; omega) (fun h2 => by have := hFlt _ h2; omega)
  replace hB := hB.trans (hM.below hB.size hFW)
  clear HP HN hM hF2 hFp hFlt
  go_wp2_with fail
  refine (audit_Check_ok g F2 2 2 _ ex38f ex38f p Fp b A w5 HG HP5 HN5 hbd).mono ?_
  rintro e w6 ⟨v, base, rfl, hbase, hown, hb⟩
  rw [(ex38_off 1).1, (ex38_off 1).2, (ex38_off 2).2] at hown
  obtain ⟨k, cap, cs, rfl, hcap, hk, hrowk, hcs⟩ := own_rowS hown (by omega)
  replace hB := below_next hB hb
  have HC := Lib.hid (And.intro hrowk hcs)
  clear hb hown hrowk hcs HP5 HN5 HG
  go_wp2_with fail
  refine (same38_ok 2 k w6.heap.size cap 2 (fun i => if i = 0 then 1 else 2) (fun _ => 1) (fun _ => 0) _ (by omega) (fun i hi => ?_) (fun i hi => ?_)).mono ?_
  · have hrk := below_blk (below_alloc1 w6 (.cells #[.int .i64 1, .int .i64 1, .int .i64 0, .int .i64 2, .int .i64 1, .int .i64 0] 55)) HC.out.1
    rcases (by omega : i = 0 ∨ i = 1) with rfl | rfl
    · exact ⟨cells_w hrk 0 (HC.out.2 0 _ rfl), cells_w hrk 1 (HC.out.2 1 _ rfl), cells_w hrk 2 (HC.out.2 2 _ rfl)⟩
    · exact ⟨cells_w hrk 3 (HC.out.2 3 _ rfl), cells_w hrk 4 (HC.out.2 4 _ rfl), cells_w hrk 5 (HC.out.2 5 _ rfl)⟩
  · have hrk := blk_new w6 (.cells #[.int .i64 1, .int .i64 1, .int .i64 0, .int .i64 2, .int .i64 1, .int .i64 0] 55)
    rcases (by omega : i = 0 ∨ i = 1) with rfl | rfl
    · exact ⟨cells_w hrk 0 rfl, cells_w hrk 1 rfl, cells_w hrk 2 rfl⟩
    · exact ⟨cells_w hrk 3 rfl, cells_w hrk 4 rfl, cells_w hrk 5 rfl⟩
  · rintro e w7 ⟨rfl, hb⟩
    have hBf := below_next hB (below_next (below_alloc1 w6 _) hb)
    clear hb
    go_wp2_with fail
    go_ret
    exact ⟨rfl, hBf⟩
end Go.Proofs.Ytfnflgcalhiamaa
/- hachurelaw09.Land, where the sizes are right. -/
set_option linter.unusedVariables false
set_option linter.unusedSimpArgs false
namespace Go.Proofs.Ytfnflgcalhiamaa
open Go.RowKit

/-- The sizes are right: are the values? -/
def LandRun (w h : Int) (v : Value) (n : Nat) (u : Nat → Int) (W : World) (e : Ending) (W' : World) : Prop :=
  Below W.heap.size W W' ∧ (((∀ i, i < n → mayB (u i) = true) ∧ e = .returned (.tuple #[.agg #[.int .i64 w, .int .i64 h, v], .bool true])) ∨ ((∃ i, i < n ∧ mayB (u i) = false) ∧ e = .returned (.tuple #[.agg #[.int .i64 0, .int .i64 0, .slice none 0 0], .bool false])))

set_option maxHeartbeats 2000000 in
set_option maxRecDepth 100000 in
theorem land_run (w h most : Int) (ad : Addr) (cap : Nat) (n : Nat) (u : Nat → Int) (W : World) (hrow : RowAt W ad n u) (c1 : 1 ≤ w) (c2 : 1 ≤ h) (c3 : w ≤ 1024) (c4 : h ≤ 1024) (c5 : w * h ≤ most) (c6 : (n : Int) = w * h) :
    Calls Try.prog 6 #[.int .i64 w, .int .i64 h, .slice (some ad) n cap, .int .i64 most] W (LandRun w h (.slice (some ad) n cap) n u W) := by
  have hm := mul_bd (a := w) (b := h) (A := 1024) (B := 1024) (by omega) (by omega) (by omega) (by omega)
  obtain ⟨hm0, hm1⟩ := hm
  have wm : wrap64 (w * h) = (n : Int) := by rw [wrap64_id (by omega) (by omega)]; exact c6.symm
  have hn : n ≤ 1048576 := by omega
  have c5' : (n : Int) ≤ most := by omega
  have ht : decide (most < (n : Int)) = false := decide_eq_false (by omega)
  clear c6 c5 hm0 hm1
  have hrow1 := hrow.below (below_alloc1 W (.cells #[.int .i64 0, .int .i64 0, .slice none 0 0] 25))
  have HR := Lib.hid hrow1
  clear hrow hrow1
  go_enter Try.func6, Try.ntmps6
  go_wp2_with fail
  go_loopg [10] n (fun q v10 wr => ∃ j : Nat, Hid (j + q = n) ∧ v10 = .int .i64 (j : Int) ∧ Hid (∀ i, i < j → mayB (u i) = true) ∧ (W.alloc (.cells #[.int .i64 0, .int .i64 0, .slice none 0 0] 25)) = wr)
  case atStart => exact ⟨0, Nat.zero_add _, rfl, fun i hi => by omega, rfl⟩
  case round =>
    obtain ⟨j, hj, rfl, hg, rfl⟩ := hrel
    cases gk with
    | zero =>
      have ht2 : decide (j < n) = false := decide_eq_false (by have := hj.out; omega)
      go_wp2_with fail
      have e : j = n := hj.out
      refine bodyPost_ret (res_ct rfl rfl (blk_new _ _) agg_Model rfl) rfl ?_
      exact ⟨below_alloc1 _ _, .inl ⟨by rw [← e]; exact hg.out, rfl⟩⟩
    | succ q =>
      have hlt : j < n := by have := hj.out; omega
      have ht2 : decide (j < n) = true := decide_eq_true (by omega)
      have hc := HR.out j hlt
      have hmn : (j : Int) < (n : Int) := by omega
      by_cases hs : mayB (u j) = true
      · have Hs := Lib.hid hs
        go_wp2_with (go_at_call 18; refine (ref04_May_any (u j) _).mono ?_; rintro e w' ⟨rfl, rfl⟩)
        go_roundg q
        case measure => omega
        case rel =>
          refine ⟨j + 1, (by have := hj.out; exact (show j + 1 + q = n by omega)), by first | rfl | exact congrArg (Value.int .i64) (by omega), ?_, rfl⟩
          intro i hi
          rcases Nat.lt_or_ge i j with h | h
          · exact hg.out i h
          · have : i = j := by omega
            subst this
            exact Hs.out
      · have hs' : mayB (u j) = false := by simpa using hs
        have Hs := Lib.hid hs'
        clear hs
        go_wp2_with (go_at_call 18; refine (ref04_May_any (u j) _).mono ?_; rintro e w' ⟨rfl, rfl⟩)
        refine bodyPost_ret (res_ct rfl rfl (blk_new _ _) agg_Model rfl) rfl ?_
        exact ⟨below_alloc1 _ _, .inr ⟨⟨j, hlt, Hs.out⟩, rfl⟩⟩

/-- A land, or none. -/
def LandAny (w h most : Int) (v : Value) (n : Nat) (u : Nat → Int) (W : World) (e : Ending) (W' : World) : Prop :=
  Below W.heap.size W W' ∧ ((LandOk w h most n u ∧ e = .returned (.tuple #[.agg #[.int .i64 w, .int .i64 h, v], .bool true])) ∨ (¬ LandOk w h most n u ∧ e = .returned (.tuple #[.agg #[.int .i64 0, .int .i64 0, .slice none 0 0], .bool false])))
theorem land_any (w h most : Int) (v : Value) (n : Nat) (u : Nat → Int) (W : World) (hv : ArgAt W v n u) :
    Calls Try.prog 6 #[.int .i64 w, .int .i64 h, v, .int .i64 most] W (LandAny w h most v n u W) := by
  by_cases hn : 1 ≤ w ∧ 1 ≤ h ∧ w ≤ 1024 ∧ h ≤ 1024 ∧ w * h ≤ most ∧ (n : Int) = w * h
  · obtain ⟨c1, c2, c3, c4, c5, c6⟩ := hn
    obtain ⟨o, cap, rfl, h1, h2⟩ := hv
    have hm := Int.mul_le_mul c1 c2 (by omega) (by omega)
    obtain ⟨ad, rfl, hr⟩ := h2 (by omega)
    refine (land_run w h most ad cap n u W hr c1 c2 c3 c4 c5 c6).mono ?_
    rintro e w' ⟨hb, ⟨hm, rfl⟩ | ⟨⟨i, hi, hf⟩, rfl⟩⟩
    · exact ⟨hb, .inl ⟨⟨c1, c2, c3, c4, c5, c6, hm⟩, rfl⟩⟩
    · exact ⟨hb, .inr ⟨(fun H => by rw [H.may i hi] at hf; cases hf), rfl⟩⟩
  · refine (land_none w h most v n u W hv hn).mono ?_
    rintro e w' ⟨rfl, hb⟩
    exact ⟨hb, .inr ⟨fun H => hn ⟨H.w1, H.h1, H.w2, H.h2, H.most, H.len⟩, rfl⟩⟩
end Go.Proofs.Ytfnflgcalhiamaa
/- hachurelaw09.Made: a grid with values, set one by one. -/
set_option linter.unusedVariables false
set_option linter.unusedSimpArgs false
namespace Go.Proofs.Ytfnflgcalhiamaa
open Go.RowKit

/-- The first j values are set. -/
def setF (w : Nat) (u : Nat → Int) (j : Nat) : Int → Int → Int := fun x y => if (y * w + x).toNat < j then u ((y * w + x).toNat) else 0
/-- Up to j values are set in a grid of the call's own. -/
def MadeStep (g : Nat) (w h : Int) (f : Int → Int → Int) (W wr : World) : Prop := ∃ F, Below W.heap.size W wr ∧ (∀ k, F k → W.heap.size ≤ k) ∧ GridAt wr g F w h f
/-- A made grid. -/
def GridMade (w h : Int) (f : Int → Int → Int) (W : World) (e : Ending) (W' : World) : Prop :=
  ∃ g F, e = .returned (.tuple #[.pointer (some ⟨g, 0, none⟩), .bool true]) ∧ Below W.heap.size W W' ∧ (∀ k, F k → W.heap.size ≤ k) ∧ GridAt W' g F w h f
theorem set_step {w h j : Nat} {u : Nat → Int} (hw : 1 ≤ w) (hj : j < w * h) : ∀ x y, 0 ≤ x → x < (w : Int) → 0 ≤ y → y < (h : Int) → setF w u (j + 1) x y = fillF (setF w u j) ((j % w : Nat) : Int) ((j / w : Nat) : Int) ((j % w : Nat) : Int) ((j / w : Nat) : Int) (u j) x y := by
  intro x y a1 a2 a3 a4
  have he := Nat.div_add_mod j w
  have hm : j % w < w := Nat.mod_lt j (by omega)
  have k1 := lex_lt (X := x) (Y := y) (rw := w) (J := j / w) (K := j % w) a1 a2 a3 (by omega)
  have k2 := lex_lt (X := x) (Y := y) (rw := w) (J := j / w) (K := j % w + 1) a1 a2 a3 (by omega)
  rw [he] at k1
  rw [← Nat.add_assoc, he] at k2
  generalize j % w = I at *
  generalize j / w = J at *
  unfold setF fillF
  dsimp only
  by_cases hf : inR (I : Int) (J : Int) (I : Int) (J : Int) x y
  · have hf' := hf
    unfold inR at hf'
    rw [if_pos hf, if_pos (k2.2 (by omega))]
    congr 1
    have : y * (w : Int) = ((w * J : Nat) : Int) := by rw [show y = (J : Int) by omega]; push_cast; rw [Int.mul_comm]
    omega
  · rw [if_neg hf]
    have hf' : ¬ (x = I ∧ y = J) := fun z => hf (by unfold inR; omega)
    by_cases hk : (y * (w : Int) + x).toNat < j
    · rw [if_pos (by omega), if_pos hk]
    · rw [if_neg (fun z => by have a := k2.1 z; have b := mt k1.2 hk; omega), if_neg hk]
theorem set_keep {w h j : Nat} {u : Nat → Int} (hw : 1 ≤ w) (hj : j < w * h) (hu : u j = 0) : ∀ x y, 0 ≤ x → x < (w : Int) → 0 ≤ y → y < (h : Int) → setF w u (j + 1) x y = setF w u j x y := by
  intro x y a1 a2 a3 a4
  unfold setF
  by_cases hk : (y * (w : Int) + x).toNat < j
  · rw [if_pos (by omega), if_pos hk]
  · rw [if_neg hk]
    by_cases hk2 : (y * (w : Int) + x).toNat < j + 1
    · rw [if_pos hk2, show (y * (w : Int) + x).toNat = j by omega, hu]
    · rw [if_neg hk2]
theorem set_all {w h : Nat} {u : Nat → Int} (hw : 1 ≤ w) : ∀ x y, 0 ≤ x → x < (w : Int) → 0 ≤ y → y < (h : Int) → u ((y * (w : Int) + x).toNat) = setF w u (w * h) x y := by
  intro x y a1 a2 a3 a4
  obtain ⟨h1, h2⟩ := idx_lt a1 a2 a3 a4
  unfold setF
  rw [if_pos (by have : ((w * h : Nat) : Int) = w * h := by { push_cast; rfl }; omega)]

set_option maxHeartbeats 1000000 in
set_option maxRecDepth 100000 in
theorem made_ok (w h : Nat) (W : World) (w1 : 1 ≤ w) (w2 : w ≤ 1024) (h1 : 1 ≤ h) (h2 : h ≤ 1024) (ad : Addr) (cap : Nat) (u : Nat → Int) (hu : ∀ j, j < w * h → -2147483648 ≤ u j ∧ u j ≤ 2147483647) (hrow : RowAt W ad (w * h) u) :
    Calls Try.prog 7 #[.int .i64 w, .int .i64 h, .slice (some ad) (w * h) cap] W (GridMade w h (fun x y => u ((y * w + x).toNat)) W) := by
  have HU := Lib.hid hu
  clear hu
  have hm := Nat.mul_le_mul w2 h2
  have wm : wrap64 ((w : Int) * (h : Int)) = ((w * h : Nat) : Int) := by rw [← Int.natCast_mul, wrap64_id (by omega) (by omega)]
  obtain ⟨N, hN⟩ : ∃ N, w * h = N := ⟨_, rfl⟩
  rw [hN] at hm wm hrow ⊢
  have HN := Lib.hid hN
  clear hN
  go_enter Try.func7, Try.ntmps7
  go_wp2_with fail
  refine (grid_New_ok w h 0 W (by omega) (by omega) (by omega) (by omega) (by omega) (by omega)).mono ?_
  rintro e w3 ⟨g, F, rfl, hB, hF, HG⟩
  go_wp2_with fail
  simp only [wm]
  go_loopg [10] N (fun q v10 wr => ∃ j : Nat, Hid (j + q = N) ∧ v10 = .int .i64 (j : Int) ∧ MadeStep g w h (setF w u j) W wr)
  case atStart => exact ⟨0, Nat.zero_add _, rfl, F, hB, hF, HG.congr (fun x y _ _ _ _ => by unfold setF; rw [if_neg (by omega)])⟩
  case round =>
    clear HG hF hB
    obtain ⟨j, hj, rfl, F1, hB, hF, HG⟩ := hrel
    cases gk with
    | zero =>
      have ht : decide ((j : Int) < (N : Int)) = false := decide_eq_false (by have := hj.out; omega)
      have ht2 : decide (j < N) = false := decide_eq_false (by have := hj.out; omega)
      go_wp2_with fail
      go_ret2
      have ej : j = N := hj.out
      refine ⟨g, F1, rfl, hB, hF, HG.congr ?_⟩
      rw [ej, ← HN.out]
      exact set_all w1
    | succ q =>
      have hlt : j < N := by have := hj.out; omega
      have ht : decide ((j : Int) < (N : Int)) = true := decide_eq_true (by omega)
      have ht2 : decide (j < N) = true := decide_eq_true hlt
      have hc := (hrow.below hB) j hlt
      have qc := fun d os => cell_regrown hc d os
      have hji : (j : Int) < (N : Int) := by omega
      by_cases hz : u j = 0
      · have hb : (u j != 0) = false := by simp [hz]
        have HZ := Lib.hid hz
        clear hz
        go_wp2_with fail
        refine wp_quiet (by kernel_rfl) (by kernel_rfl) ?_
        repeat (go_big_quiet_step ((first | fail)))
        refine wpQuiet_nil ?_
        intro w5 hb5
        clear qc
        go_wp2_with fail
        go_roundg q
        case measure => omega
        case rel =>
          exact ⟨j + 1, by have := hj.out; exact (show j + 1 + q = N by omega), by first | rfl | exact congrArg (Value.int .i64) (by push_cast; omega), F1, below_next hB hb5, hF, (HG.below hb5).congr (set_keep w1 (by rw [HN.out]; exact hlt) HZ.out)⟩
      · have hb : (u j != 0) = true := by simp [hz]
        clear hz
        go_wp2_with fail
        refine wp_tail 18 (by kernel_rfl) (by kernel_rfl) ?_
        simp only [List.take_succ_cons, List.take_zero, List.drop_succ_cons, List.drop_zero]
        repeat (go_big_quiet_step ((first | fail)))
        refine wpQuiet_nil ?_
        intro w5 hb5
        clear qc
        have hIm : j % w < w := Nat.mod_lt j (by omega)
        have hJd : j / w < h := Nat.div_lt_of_lt_mul (by rw [HN.out]; exact hlt)
        have HS := Lib.hid (fun x y b1 b2 b3 b4 => set_step (w := w) (h := h) (j := j) (u := u) w1 (by rw [HN.out]; exact hlt) x y b1 b2 b3 b4)
        generalize hI : j % w = I at *
        generalize hJ : j / w = J at *
        have m1 : (j : Int) % (w : Int) = (I : Int) := by rw [← hI]; push_cast; rfl
        have m2 : (j : Int) / (w : Int) = (J : Int) := by rw [← hJ]; push_cast; rfl
        have wJ : wrap64 (J : Int) = (J : Int) := wrap64_id (by omega) (by omega)
        clear hI hJ
        go_wp2_with fail
        refine (grid_Set_ok g F1 w h (I : Int) (J : Int) (u j) _ w5 (HG.below hb5) (by omega) (by omega) (by omega) (by omega) (HU.out j (by rw [HN.out]; exact hlt)).1 (HU.out j (by rw [HN.out]; exact hlt)).2).mono ?_
        rintro e w7 ⟨F2, rfl, hM2, hF2, HG2⟩
        have hB5 := below_next hB hb5
        have hs5 := hB5.size
        go_wp2_with fail
        go_roundg q
        case measure => omega
        case rel =>
          refine ⟨j + 1, by have := hj.out; exact (show j + 1 + q = N by omega), by first | rfl | exact congrArg (Value.int .i64) (by push_cast; omega), F2, hB5.trans (hM2.below hB5.size hF), fun k hk => ?_, HG2.congr HS.out⟩
          rcases hF2 k hk with h1 | h1
          · exact hF k h1
          · omega
end Go.Proofs.Ytfnflgcalhiamaa
/- hachurelaw16.Over: a pyramid that is that of a model. -/
set_option linter.unusedVariables false
set_option linter.unusedSimpArgs false
namespace Go.Proofs.Ytfnflgcalhiamaa
open Go.RowKit

set_option maxHeartbeats 4000000 in
set_option maxRecDepth 100000 in
theorem over_ok (p : Nat) (F : Nat → Prop) (ad : Addr) (cap0 N : Nat) (u : Nat → Int) (w h : Int) (W : World) (HP : PyrAt W p F w h (fun x y => u ((y * w + x).toNat))) (hN : (N : Int) = w * h) (hRow : RowAt W ad N u) :
    Calls Try.prog 14 #[.pointer (some ⟨p, 0, none⟩), .agg #[.int .i64 w, .int .i64 h, .slice (some ad) N cap0]] W fun e W' => e = .returned (.bool true) ∧ Below W.heap.size W W' := by
  obtain ⟨w1, w2, h1, h2⟩ := HP.dims
  have hL := levs_bd w1 w2 h1 h2
  obtain ⟨L, hLe⟩ : ∃ L, levs w h = L := ⟨_, rfl⟩
  have HL := Lib.hid hLe
  rw [hLe] at hL
  have HN := Lib.hid hN
  clear hLe hN
  go_enter Try.func14, Try.ntmps14
  go_wp2_with fail
  have n0 := blk_new W (.cells #[.int .i64 w, .int .i64 h, .slice (some ad) N cap0] 25)
  have hB := below_alloc1 W (.cells #[.int .i64 w, .int .i64 h, .slice (some ad) N cap0] 25)
  refine (ref15_sizes_ok w h _ w1 w2 h1 h2).mono ?_
  rintro e w3 ⟨k0, capl, cs, rfl, hcap, hk0, hb, hrow, hcs⟩
  replace n0 := below_blk hb n0
  replace hB := below_next hB hb
  rw [HL.out] at hcs ⊢
  have HP3 := HP.below hB
  clear hb hk0 hcap HP
  obtain ⟨A, cap, ps, s, HR⟩ := HP3
  have i_0 := cells_w n0 0 rfl
  have i_1 := cells_w n0 1 rfl
  have i_2 := cells_w n0 2 rfl
  go_wp2_with fail
  refine (pyr_Size_ok p F w h _ A cap ps s w3 HR).mono ?_
  rintro e w4 ⟨rfl, hb⟩
  replace n0 := below_blk hb n0
  replace hrow := below_blk hb hrow
  replace hB := below_next hB hb
  have HR4 := HR.below hb
  clear hb i_0 i_1 i_2 HR
  have i_0 := cells_w n0 0 rfl
  have i_1 := cells_w n0 1 rfl
  have i_2 := cells_w n0 2 rfl
  go_wp2_with fail
  refine (pyr_Levels_ok p F w h _ A cap ps s w4 HR4).mono ?_
  rw [HL.out]
  rintro e w5 ⟨rfl, rfl⟩
  go_wp2_with fail
  have HP4 : PyrAt w4 p F w h (fun x y => u ((y * w + x).toNat)) := ⟨A, cap, ps, s, HR4⟩
  have HPY := Lib.hid HP4
  have HRW := Lib.hid (hRow.below hB)
  have HCS := Lib.hid hcs
  obtain ⟨E, hE⟩ : ∃ E, W.heap.size = E := ⟨_, rfl⟩
  have hBE := Lib.hid hB
  rw [hE] at n0 ⊢
  clear hE HR4 HP4 hRow hcs hB i_0 i_1 i_2
  go_loopg [8] L (fun q v8 wr => ∃ kk : Nat, Hid (kk + q = L) ∧ v8 = .int .i64 (kk : Int) ∧ Below w4.heap.size w4 wr)
  case atStart => exact ⟨0, Nat.zero_add _, rfl, Below.refl _ _⟩
  case round =>
    obtain ⟨kk, hk, rfl, hbr⟩ := hrel
    cases gk with
    | zero =>
      have ht : decide (kk < L) = false := decide_eq_false (by have := hk.out; omega)
      have ht2 : decide ((kk : Int) < (L : Int)) = false := decide_eq_false (by have := hk.out; omega)
      go_wp2_with fail
      go_ret
      exact ⟨rfl, below_next hBE.out hbr⟩
    | succ m =>
      have hlt : kk < L := by have := hk.out; omega
      have hlti : (kk : Int) < (L : Int) := by omega
      have ht : decide (kk < L) = true := decide_eq_true hlt
      have ht2 : decide ((kk : Int) < (L : Int)) = true := decide_eq_true (by omega)
      have bw := lw_bd w1 kk
      have bh := lw_bd h1 kk
      have hmm := mul_bd (a := lw w kk) (b := lw h kk) (A := 1024) (B := 1024) (by omega) (by omega) (by omega) (by omega)
      obtain ⟨M, hM⟩ : ∃ M : Nat, (M : Int) = lw w kk * lw h kk := ⟨(lw w kk * lw h kk).toNat, by omega⟩
      have hM1 : M ≤ 1048576 := by omega
      have u1 : IntKind.i64.wrap (lw w kk * lw h kk) = (M : Int) := by rw [IntWalk.i64_in _ (by omega), hM]
      have u2 : wrap64 (lw w kk * lw h kk) = (M : Int) := by rw [wrap64_id (by omega) (by omega), hM]
      have HM := Lib.hid hM
      clear hM hmm
      go_wp2_with fail
      go_loopg [9] M (fun q v9 wr => ∃ i : Nat, Hid (i + q = M) ∧ v9 = .int .i64 (i : Int) ∧ Below w4.heap.size w4 wr)
      case atStart => exact ⟨0, Nat.zero_add _, rfl, hbr⟩
      case round =>
        clear hbr
        obtain ⟨i, hi, rfl, hbr⟩ := hrel
        have mrow := below_blk hbr hrow
        have c0 := (blk_cell mrow (kk * 2)).trans (HCS.out kk hlt).1
        have c1 := (blk_cell mrow (kk * 2 + 1)).trans (HCS.out kk hlt).2
        have q0 := fun d os => cell_regrown c0 d os
        have q1 := fun d os => cell_regrown c1 d os
        cases gk with
        | zero =>
          have hi2 : decide (i < M) = false := decide_eq_false (by have := hi.out; omega)
          have hi3 : decide ((i : Int) < (M : Int)) = false := decide_eq_false (by have := hi.out; omega)
          go_wp2_with fail
          refine wp_quiet (by kernel_rfl) (by kernel_rfl) ?_
          repeat (go_big_quiet_step ((first | fail)))
          refine wpQuiet_nil ?_
          intro w5 hb5
          clear q0 q1 c0 c1
          go_wp2_with fail
          go_roundg m
          case measure => omega
          case rel => exact ⟨kk + 1, by have := hk.out; exact (show kk + 1 + m = L by omega), by first | rfl | (exact congrArg (Value.int .i64) (by push_cast; omega)), hbr.trans (hb5.mono hbr.size)⟩
        | succ q =>
          have hiM : i < M := by have := hi.out; omega
          have hiMi : (i : Int) < (M : Int) := by omega
          have hi2 : decide (i < M) = true := decide_eq_true hiM
          have hi3 : decide ((i : Int) < (M : Int)) = true := decide_eq_true hiMi
          go_wp2_with fail
          refine wp_quiet (by kernel_rfl) (by kernel_rfl) ?_
          repeat (go_big_quiet_step ((first | fail)))
          refine wpQuiet_nil ?_
          intro w5 hb5
          have hbr5 : Below w4.heap.size w4 w5 := hbr.trans (hb5.mono hbr.size)
          clear q0 q1 c0 c1 mrow hbr hb5
          have mrow := below_blk hbr5 hrow
          have c0 := (blk_cell mrow (kk * 2)).trans (HCS.out kk hlt).1
          have ca := fun o => cell_drew (cell_alloc (o := o) c0)
          have cb := cell_drew c0
          go_wp2_with fail
          have hlin := lin_at (w := lw w kk) (h := lw h kk) (i := i) (by omega) (by have := HM.out; omega)
          have u3 : wrap64 ((i : Int) / lw w kk) = (i : Int) / lw w kk := wrap64_id (by omega) (by omega)
          have HLIN := Lib.hid (And.intro hlin.1 (And.intro hlin.2.1 (And.intro hlin.2.2.1 hlin.2.2.2.1)))
          clear hlin
          go_region
          clear ca cb c0 mrow u3
          have nC : ((w5.alloc (.cells #[.int .i64 ((i : Int) % lw w kk), .int .i64 ((i : Int) / lw w kk)] 53)).drew).heap[w5.heap.size]? = some (.cells #[.int .i64 ((i : Int) % lw w kk), .int .i64 ((i : Int) / lw w kk)] 53 (0, 0)) := blk_drew (blk_new _ _)
          have hbr6 : Below w4.heap.size w4 ((w5.alloc (.cells #[.int .i64 ((i : Int) % lw w kk), .int .i64 ((i : Int) / lw w kk)] 53)).drew) := below_drew1 (below_alloc hbr5 _)
          obtain ⟨w6, hw6⟩ : ∃ w6, ((w5.alloc (.cells #[.int .i64 ((i : Int) % lw w kk), .int .i64 ((i : Int) / lw w kk)] 53)).drew) = w6 := ⟨_, rfl⟩
          rw [hw6] at nC hbr6 ⊢
          clear hw6 hbr5
          obtain ⟨C, hC⟩ : ∃ C, w5.heap.size = C := ⟨_, rfl⟩
          rw [hC] at nC ⊢
          clear hC
          have k_0 := cells_w nC 0 rfl
          have k_1 := cells_w nC 1 rfl
          go_wp2_with fail
          refine (pyr_At_any p F w h _ _ kk _ w6 (HPY.out.below hbr6)).mono ?_
          rintro e w7 ⟨ra, rb, rc, rfl, hA1, hb7⟩
          replace nC := below_blk hb7 nC
          have hbr7 := below_next hbr6 hb7
          have n07 := below_blk hbr7 n0
          clear hbr6 hb7 k_0 k_1
          have ka := fun o => cells_w (below_blk (below_alloc1 w7 o) nC) 0 rfl
          have kb := fun o => cells_w (below_blk (below_alloc1 w7 o) nC) 1 rfl
          have la := fun o => cells_w (below_blk (below_alloc1 w7 o) n07) 0 rfl
          have lb := fun o => cells_w (below_blk (below_alloc1 w7 o) n07) 1 rfl
          have lc := fun o => cells_w (below_blk (below_alloc1 w7 o) n07) 2 rfl
          go_wp2_with fail
          have hbr8 := below_alloc hbr7 (.cells #[.int .i64 ra, .int .i64 rb] 83)
          refine (at16_any ad cap0 N u w h kk _ _ _ w1 w2 h1 h2 HN.out (HRW.out.below hbr8)).mono ?_
          rintro e w9 ⟨ra2, rb2, rc2, rfl, hA2, hb9⟩
          have hrc : rc = 0 := by
            unfold AtIs at hA1
            rw [if_pos ⟨by omega, by have := HL.out; omega⟩, if_pos (by rw [Int.toNat_natCast]; exact ⟨HLIN.out.1, HLIN.out.2.1, HLIN.out.2.2.1, HLIN.out.2.2.2⟩)] at hA1
            exact hA1.1
          obtain ⟨rfl, rfl, rfl⟩ := hA1.unique hA2
          subst hrc
          have nA := below_blk hb9 (blk_new w7 (.cells #[.int .i64 ra, .int .i64 rb] 83))
          have hbr9 := below_next hbr8 hb9
          clear hA1 hA2 hb9 hbr8 hbr7 n07 nC ka kb la lb lc
          have k_0 := cells_w nA 0 rfl
          have k_1 := cells_w nA 1 rfl
          have ka := fun o => cells_w (below_blk (below_alloc1 w9 o) nA) 0 rfl
          have kb := fun o => cells_w (below_blk (below_alloc1 w9 o) nA) 1 rfl
          go_wp2_with fail
          go_roundg q
          case measure => omega
          case rel => exact ⟨i + 1, by have := hi.out; exact (show i + 1 + q = M by omega), by first | rfl | (exact congrArg (Value.int .i64) (by push_cast; omega)), below_alloc hbr9 _⟩
end Go.Proofs.Ytfnflgcalhiamaa

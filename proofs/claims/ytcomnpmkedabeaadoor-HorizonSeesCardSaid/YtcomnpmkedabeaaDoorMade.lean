/- hachurelaw09.Made: a grid with values, set one by one. -/
import Derived.Test.YtcomnpmkedabeaaDoorLandOk
import Derived.Test.YtcomnpmkedabeaaDoorPaste
set_option linter.unusedVariables false
set_option linter.unusedSimpArgs false
namespace Go.Proofs.YtcomnpmkedabeaaDoor
open Go.RowKit

/-- The first j values are set. -/
def setF (w : Nat) (u : Nat → Int) (j : Nat) : Int → Int → Int := fun x y => if (y * w + x).toNat < j then u ((y * w + x).toNat) else 0
/-- Up to j values are set in a grid of the call's own. -/
def MadeStep (g : Nat) (w h : Int) (f : Int → Int → Int) (W wr : World) : Prop := ∃ F, Below W.heap.size W wr ∧ (∀ k, F k → W.heap.size ≤ k) ∧ GridAt wr g F w h f
/-- A made grid. -/
def GridMade (w h : Int) (f : Int → Int → Int) (W : World) (e : Ending) (W' : World) : Prop :=
  ∃ g F, e = .returned (.tuple #[.pointer (some ⟨g, 0, none⟩), .bool true]) ∧ Below W.heap.size W W' ∧ (∀ k, F k → W.heap.size ≤ k) ∧ GridAt W' g F w h f
theorem set_step {w h j : Nat} {u : Nat → Int} (hw : 1 ≤ w) (hj : j < w * h) : ∀ x y, 0 ≤ x → x < (w : Int) → 0 ≤ y → y < (h : Int) → setF w u (j + 1) x y = fillF (setF w u j) ((j % w : Nat) : Int) ((j / w : Nat) : Int) ((j % w : Nat) : Int) ((j / w : Nat) : Int) (u j) x y := by
  intro x y a1 a2 a3 a4
  have he := Nat.div_add_mod j w
  have hm : j % w < w := Nat.mod_lt j (by omega)
  have k1 := lex_lt (X := x) (Y := y) (rw := w) (J := j / w) (K := j % w) a1 a2 a3 (by omega)
  have k2 := lex_lt (X := x) (Y := y) (rw := w) (J := j / w) (K := j % w + 1) a1 a2 a3 (by omega)
  rw [he] at k1
  rw [← Nat.add_assoc, he] at k2
  generalize j % w = I at *
  generalize j / w = J at *
  unfold setF fillF
  dsimp only
  by_cases hf : inR (I : Int) (J : Int) (I : Int) (J : Int) x y
  · have hf' := hf
    unfold inR at hf'
    rw [if_pos hf, if_pos (k2.2 (by omega))]
    congr 1
    have : y * (w : Int) = ((w * J : Nat) : Int) := by rw [show y = (J : Int) by omega]; push_cast; rw [Int.mul_comm]
    omega
  · rw [if_neg hf]
    have hf' : ¬ (x = I ∧ y = J) := fun z => hf (by unfold inR; omega)
    by_cases hk : (y * (w : Int) + x).toNat < j
    · rw [if_pos (by omega), if_pos hk]
    · rw [if_neg (fun z => by have a := k2.1 z; have b := mt k1.2 hk; omega), if_neg hk]
theorem set_keep {w h j : Nat} {u : Nat → Int} (hw : 1 ≤ w) (hj : j < w * h) (hu : u j = 0) : ∀ x y, 0 ≤ x → x < (w : Int) → 0 ≤ y → y < (h : Int) → setF w u (j + 1) x y = setF w u j x y := by
  intro x y a1 a2 a3 a4
  unfold setF
  by_cases hk : (y * (w : Int) + x).toNat < j
  · rw [if_pos (by omega), if_pos hk]
  · rw [if_neg hk]
    by_cases hk2 : (y * (w : Int) + x).toNat < j + 1
    · rw [if_pos hk2, show (y * (w : Int) + x).toNat = j by omega, hu]
    · rw [if_neg hk2]
theorem set_all {w h : Nat} {u : Nat → Int} (hw : 1 ≤ w) : ∀ x y, 0 ≤ x → x < (w : Int) → 0 ≤ y → y < (h : Int) → u ((y * (w : Int) + x).toNat) = setF w u (w * h) x y := by
  intro x y a1 a2 a3 a4
  obtain ⟨h1, h2⟩ := idx_lt a1 a2 a3 a4
  unfold setF
  rw [if_pos (by have : ((w * h : Nat) : Int) = w * h := by { push_cast; rfl }; omega)]

set_option maxHeartbeats 1000000 in
set_option maxRecDepth 100000 in
theorem made_ok (w h : Nat) (W : World) (w1 : 1 ≤ w) (w2 : w ≤ 1024) (h1 : 1 ≤ h) (h2 : h ≤ 1024) (ad : Addr) (cap : Nat) (u : Nat → Int) (hu : ∀ j, j < w * h → -2147483648 ≤ u j ∧ u j ≤ 2147483647) (hrow : RowAt W ad (w * h) u) :
    Calls Tryd.prog 8 #[.int .i64 w, .int .i64 h, .slice (some ad) (w * h) cap] W (GridMade w h (fun x y => u ((y * w + x).toNat)) W) := by
  have HU := Lib.hid hu
  clear hu
  have hm := Nat.mul_le_mul w2 h2
  have wm : wrap64 ((w : Int) * (h : Int)) = ((w * h : Nat) : Int) := by rw [← Int.natCast_mul, wrap64_id (by omega) (by omega)]
  obtain ⟨N, hN⟩ : ∃ N, w * h = N := ⟨_, rfl⟩
  rw [hN] at hm wm hrow ⊢
  have HN := Lib.hid hN
  clear hN
  go_enter Tryd.func8, Tryd.ntmps8
  go_wp2_with fail
  refine (grid_New_ok w h 0 W (by omega) (by omega) (by omega) (by omega) (by omega) (by omega)).mono ?_
  rintro e w3 ⟨g, F, rfl, hB, hF, HG⟩
  go_wp2_with fail
  simp only [wm]
  go_loopg [10] N (fun q v10 wr => ∃ j : Nat, Hid (j + q = N) ∧ v10 = .int .i64 (j : Int) ∧ MadeStep g w h (setF w u j) W wr)
  case atStart => exact ⟨0, Nat.zero_add _, rfl, F, hB, hF, HG.congr (fun x y _ _ _ _ => by unfold setF; rw [if_neg (by omega)])⟩
  case round =>
    clear HG hF hB
    obtain ⟨j, hj, rfl, F1, hB, hF, HG⟩ := hrel
    cases gk with
    | zero =>
      have ht : decide ((j : Int) < (N : Int)) = false := decide_eq_false (by have := hj.out; omega)
      have ht2 : decide (j < N) = false := decide_eq_false (by have := hj.out; omega)
      go_wp2_with fail
      go_ret2
      have ej : j = N := hj.out
      refine ⟨g, F1, rfl, hB, hF, HG.congr ?_⟩
      rw [ej, ← HN.out]
      exact set_all w1
    | succ q =>
      have hlt : j < N := by have := hj.out; omega
      have ht : decide ((j : Int) < (N : Int)) = true := decide_eq_true (by omega)
      have ht2 : decide (j < N) = true := decide_eq_true hlt
      have hc := (hrow.below hB) j hlt
      have qc := fun d os => cell_regrown hc d os
      have hji : (j : Int) < (N : Int) := by omega
      by_cases hz : u j = 0
      · have hb : (u j != 0) = false := by simp [hz]
        have HZ := Lib.hid hz
        clear hz
        go_wp2_with fail
        refine wp_quiet (by kernel_rfl) (by kernel_rfl) ?_
        repeat (go_big_quiet_step ((first | fail)))
        refine wpQuiet_nil ?_
        intro w5 hb5
        clear qc
        go_wp2_with fail
        go_roundg q
        case measure => omega
        case rel =>
          exact ⟨j + 1, by have := hj.out; exact (show j + 1 + q = N by omega), by first | rfl | exact congrArg (Value.int .i64) (by push_cast; omega), F1, below_next hB hb5, hF, (HG.below hb5).congr (set_keep w1 (by rw [HN.out]; exact hlt) HZ.out)⟩
      · have hb : (u j != 0) = true := by simp [hz]
        clear hz
        go_wp2_with fail
        refine wp_tail 18 (by kernel_rfl) (by kernel_rfl) ?_
        simp only [List.take_succ_cons, List.take_zero, List.drop_succ_cons, List.drop_zero]
        repeat (go_big_quiet_step ((first | fail)))
        refine wpQuiet_nil ?_
        intro w5 hb5
        clear qc
        have hIm : j % w < w := Nat.mod_lt j (by omega)
        have hJd : j / w < h := Nat.div_lt_of_lt_mul (by rw [HN.out]; exact hlt)
        have HS := Lib.hid (fun x y b1 b2 b3 b4 => set_step (w := w) (h := h) (j := j) (u := u) w1 (by rw [HN.out]; exact hlt) x y b1 b2 b3 b4)
        generalize hI : j % w = I at *
        generalize hJ : j / w = J at *
        have m1 : (j : Int) % (w : Int) = (I : Int) := by rw [← hI]; push_cast; rfl
        have m2 : (j : Int) / (w : Int) = (J : Int) := by rw [← hJ]; push_cast; rfl
        have wJ : wrap64 (J : Int) = (J : Int) := wrap64_id (by omega) (by omega)
        clear hI hJ
        go_wp2_with fail
        refine (grid_Set_ok g F1 w h (I : Int) (J : Int) (u j) _ w5 (HG.below hb5) (by omega) (by omega) (by omega) (by omega) (HU.out j (by rw [HN.out]; exact hlt)).1 (HU.out j (by rw [HN.out]; exact hlt)).2).mono ?_
        rintro e w7 ⟨F2, rfl, hM2, hF2, HG2⟩
        have hB5 := below_next hB hb5
        have hs5 := hB5.size
        go_wp2_with fail
        go_roundg q
        case measure => omega
        case rel =>
          refine ⟨j + 1, by have := hj.out; exact (show j + 1 + q = N by omega), by first | rfl | exact congrArg (Value.int .i64) (by push_cast; omega), F2, hB5.trans (hM2.below hB5.size hF), fun k hk => ?_, HG2.congr HS.out⟩
          rcases hF2 k hk with h1 | h1
          · exact hF k h1
          · omega
end Go.Proofs.YtcomnpmkedabeaaDoor

/- hachurelaw09.Land, where the sizes are right. -/
import Derived.Test.YtcomnpmkedabeaaDoorLand
set_option linter.unusedVariables false
set_option linter.unusedSimpArgs false
namespace Go.Proofs.YtcomnpmkedabeaaDoor
open Go.RowKit

/-- The sizes are right: are the values? -/
def LandRun (w h : Int) (v : Value) (n : Nat) (u : Nat → Int) (W : World) (e : Ending) (W' : World) : Prop :=
  Below W.heap.size W W' ∧ (((∀ i, i < n → mayB (u i) = true) ∧ e = .returned (.tuple #[.agg #[.int .i64 w, .int .i64 h, v], .bool true])) ∨ ((∃ i, i < n ∧ mayB (u i) = false) ∧ e = .returned (.tuple #[.agg #[.int .i64 0, .int .i64 0, .slice none 0 0], .bool false])))

set_option maxHeartbeats 2000000 in
set_option maxRecDepth 100000 in
theorem land_run (w h most : Int) (ad : Addr) (cap : Nat) (n : Nat) (u : Nat → Int) (W : World) (hrow : RowAt W ad n u) (c1 : 1 ≤ w) (c2 : 1 ≤ h) (c3 : w ≤ 1024) (c4 : h ≤ 1024) (c5 : w * h ≤ most) (c6 : (n : Int) = w * h) :
    Calls Tryd.prog 7 #[.int .i64 w, .int .i64 h, .slice (some ad) n cap, .int .i64 most] W (LandRun w h (.slice (some ad) n cap) n u W) := by
  have hm := mul_bd (a := w) (b := h) (A := 1024) (B := 1024) (by omega) (by omega) (by omega) (by omega)
  obtain ⟨hm0, hm1⟩ := hm
  have wm : wrap64 (w * h) = (n : Int) := by rw [wrap64_id (by omega) (by omega)]; exact c6.symm
  have hn : n ≤ 1048576 := by omega
  have c5' : (n : Int) ≤ most := by omega
  have ht : decide (most < (n : Int)) = false := decide_eq_false (by omega)
  clear c6 c5 hm0 hm1
  have hrow1 := hrow.below (below_alloc1 W (.cells #[.int .i64 0, .int .i64 0, .slice none 0 0] 27))
  have HR := Lib.hid hrow1
  clear hrow hrow1
  go_enter Tryd.func7, Tryd.ntmps7
  go_wp2_with fail
  go_loopg [10] n (fun q v10 wr => ∃ j : Nat, Hid (j + q = n) ∧ v10 = .int .i64 (j : Int) ∧ Hid (∀ i, i < j → mayB (u i) = true) ∧ (W.alloc (.cells #[.int .i64 0, .int .i64 0, .slice none 0 0] 27)) = wr)
  case atStart => exact ⟨0, Nat.zero_add _, rfl, fun i hi => by omega, rfl⟩
  case round =>
    obtain ⟨j, hj, rfl, hg, rfl⟩ := hrel
    cases gk with
    | zero =>
      have ht2 : decide (j < n) = false := decide_eq_false (by have := hj.out; omega)
      go_wp2_with fail
      have e : j = n := hj.out
      refine bodyPost_ret (res_ct rfl rfl (blk_new _ _) agg_Model rfl) rfl ?_
      exact ⟨below_alloc1 _ _, .inl ⟨by rw [← e]; exact hg.out, rfl⟩⟩
    | succ q =>
      have hlt : j < n := by have := hj.out; omega
      have ht2 : decide (j < n) = true := decide_eq_true (by omega)
      have hc := HR.out j hlt
      have hmn : (j : Int) < (n : Int) := by omega
      by_cases hs : mayB (u j) = true
      · have Hs := Lib.hid hs
        go_wp2_with (go_at_call 16; refine (ref04_May_any (u j) _).mono ?_; rintro e w' ⟨rfl, rfl⟩)
        go_roundg q
        case measure => omega
        case rel =>
          refine ⟨j + 1, (by have := hj.out; exact (show j + 1 + q = n by omega)), by first | rfl | exact congrArg (Value.int .i64) (by omega), ?_, rfl⟩
          intro i hi
          rcases Nat.lt_or_ge i j with h | h
          · exact hg.out i h
          · have : i = j := by omega
            subst this
            exact Hs.out
      · have hs' : mayB (u j) = false := by simpa using hs
        have Hs := Lib.hid hs'
        clear hs
        go_wp2_with (go_at_call 16; refine (ref04_May_any (u j) _).mono ?_; rintro e w' ⟨rfl, rfl⟩)
        refine bodyPost_ret (res_ct rfl rfl (blk_new _ _) agg_Model rfl) rfl ?_
        exact ⟨below_alloc1 _ _, .inr ⟨⟨j, hlt, Hs.out⟩, rfl⟩⟩

/-- A land, or none. -/
def LandAny (w h most : Int) (v : Value) (n : Nat) (u : Nat → Int) (W : World) (e : Ending) (W' : World) : Prop :=
  Below W.heap.size W W' ∧ ((LandOk w h most n u ∧ e = .returned (.tuple #[.agg #[.int .i64 w, .int .i64 h, v], .bool true])) ∨ (¬ LandOk w h most n u ∧ e = .returned (.tuple #[.agg #[.int .i64 0, .int .i64 0, .slice none 0 0], .bool false])))
theorem land_any (w h most : Int) (v : Value) (n : Nat) (u : Nat → Int) (W : World) (hv : ArgAt W v n u) :
    Calls Tryd.prog 7 #[.int .i64 w, .int .i64 h, v, .int .i64 most] W (LandAny w h most v n u W) := by
  by_cases hn : 1 ≤ w ∧ 1 ≤ h ∧ w ≤ 1024 ∧ h ≤ 1024 ∧ w * h ≤ most ∧ (n : Int) = w * h
  · obtain ⟨c1, c2, c3, c4, c5, c6⟩ := hn
    obtain ⟨o, cap, rfl, h1, h2⟩ := hv
    have hm := Int.mul_le_mul c1 c2 (by omega) (by omega)
    obtain ⟨ad, rfl, hr⟩ := h2 (by omega)
    refine (land_run w h most ad cap n u W hr c1 c2 c3 c4 c5 c6).mono ?_
    rintro e w' ⟨hb, ⟨hm, rfl⟩ | ⟨⟨i, hi, hf⟩, rfl⟩⟩
    · exact ⟨hb, .inl ⟨⟨c1, c2, c3, c4, c5, c6, hm⟩, rfl⟩⟩
    · exact ⟨hb, .inr ⟨(fun H => by rw [H.may i hi] at hf; cases hf), rfl⟩⟩
  · refine (land_none w h most v n u W hv hn).mono ?_
    rintro e w' ⟨rfl, hb⟩
    exact ⟨hb, .inr ⟨fun H => hn ⟨H.w1, H.h1, H.w2, H.h2, H.most, H.len⟩, rfl⟩⟩
end Go.Proofs.YtcomnpmkedabeaaDoor

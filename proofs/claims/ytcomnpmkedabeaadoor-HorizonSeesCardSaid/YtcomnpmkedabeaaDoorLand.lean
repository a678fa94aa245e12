/- hachurelaw09.Land: may these be a land? -/
import Derived.Test.YtcomnpmkedabeaaDoorFind64
set_option linter.unusedVariables false
set_option linter.unusedSimpArgs false
namespace Go.Proofs.YtcomnpmkedabeaaDoor
open Go.RowKit

theorem agg_Model : AggTy Tryd.prog 27 3 := ⟨⟨_, Tryd.underlying27⟩, by kernel_rfl⟩
theorem ref04_May_any (v : Int) (w : World) : Calls Tryd.prog 16 #[.int .i64 v] w fun e w' => e = .returned (.bool (mayB v)) ∧ w = w' := by
  by_cases h1 : -2147483648 ≤ v
  · by_cases h2 : v ≤ 2147483647
    · have e : mayB v = true := mayB_iff.2 ⟨h1, h2⟩
      rw [e]
      go_enter Tryd.func16, Tryd.ntmps16
      go_wp2
      go_ret
      exact ⟨rfl, rfl⟩
    · have e : mayB v = false := by simp [mayB, h2]
      rw [e]
      go_enter Tryd.func16, Tryd.ntmps16
      go_wp2
      go_ret
      exact ⟨rfl, rfl⟩
  · have e : mayB v = false := by simp [mayB, h1]
    rw [e]
    go_enter Tryd.func16, Tryd.ntmps16
    go_wp2
    go_ret
    exact ⟨rfl, rfl⟩

/-- A slice of whole numbers, as an argument. -/
def ArgAt (W : World) (v : Value) (n : Nat) (u : Nat → Int) : Prop := ∃ o cap, v = .slice o n cap ∧ n ≤ 9223372036854775807 ∧ (0 < n → ∃ ad, o = some ad ∧ RowAt W ad n u)
theorem ArgAt.below {W W' : World} {v : Value} {n : Nat} {u : Nat → Int} (H : ArgAt W v n u) (hb : Below W.heap.size W W') : ArgAt W' v n u := by
  obtain ⟨o, cap, rfl, h1, h2⟩ := H
  exact ⟨o, cap, rfl, h1, fun h => by obtain ⟨ad, rfl, hr⟩ := h2 h; exact ⟨ad, rfl, hr.below hb⟩⟩
/-- What a land is. -/
structure LandOk (w h most : Int) (n : Nat) (u : Nat → Int) : Prop where
  w1 : 1 ≤ w
  h1 : 1 ≤ h
  w2 : w ≤ 1024
  h2 : h ≤ 1024
  most : w * h ≤ most
  len : (n : Int) = w * h
  may : ∀ i, i < n → mayB (u i) = true
/-- No land. -/
def NoLand (W : World) (e : Ending) (W' : World) : Prop := e = .returned (.tuple #[.agg #[.int .i64 0, .int .i64 0, .slice none 0 0], .bool false]) ∧ Below W.heap.size W W'

set_option maxHeartbeats 2000000 in
set_option maxRecDepth 100000 in
theorem land_none (w h most : Int) (v : Value) (n : Nat) (u : Nat → Int) (W : World) (hv : ArgAt W v n u) (hn : ¬ (1 ≤ w ∧ 1 ≤ h ∧ w ≤ 1024 ∧ h ≤ 1024 ∧ w * h ≤ most ∧ (n : Int) = w * h)) :
    Calls Tryd.prog 7 #[.int .i64 w, .int .i64 h, v, .int .i64 most] W (NoLand W) := by
  obtain ⟨o, cap, rfl, hn63, _⟩ := hv
  by_cases c1 : w < 1
  · clear hn
    go_enter Tryd.func7, Tryd.ntmps7
    go_wp2_with fail
    refine bodyPost_ret (res_ct rfl rfl (blk_new _ _) agg_Model rfl) rfl ?_
    exact ⟨rfl, below_alloc1 _ _⟩
  by_cases c2 : h < 1
  · clear hn
    go_enter Tryd.func7, Tryd.ntmps7
    go_wp2_with fail
    refine bodyPost_ret (res_ct rfl rfl (blk_new _ _) agg_Model rfl) rfl ?_
    exact ⟨rfl, below_alloc1 _ _⟩
  by_cases c3 : 1024 < w
  · clear hn
    go_enter Tryd.func7, Tryd.ntmps7
    go_wp2_with fail
    refine bodyPost_ret (res_ct rfl rfl (blk_new _ _) agg_Model rfl) rfl ?_
    exact ⟨rfl, below_alloc1 _ _⟩
  by_cases c4 : 1024 < h
  · clear hn
    go_enter Tryd.func7, Tryd.ntmps7
    go_wp2_with fail
    refine bodyPost_ret (res_ct rfl rfl (blk_new _ _) agg_Model rfl) rfl ?_
    exact ⟨rfl, below_alloc1 _ _⟩
  have hm := mul_bd (a := w) (b := h) (A := 1024) (B := 1024) (by omega) (by omega) (by omega) (by omega)
  obtain ⟨hm0, hm1⟩ := hm
  obtain ⟨m, hmm⟩ : ∃ m, w * h = m := ⟨_, rfl⟩
  have wm : wrap64 (w * h) = m := by rw [wrap64_id (by omega) (by omega)]; exact hmm
  rw [hmm] at hn hm0 hm1
  clear hmm
  by_cases c6 : (n : Int) = m
  · have c5 : ¬ m ≤ most := fun e => hn ⟨by omega, by omega, by omega, by omega, e, c6⟩
    clear hn
    have ht : decide (most < m) = true := decide_eq_true (by omega)
    go_enter Tryd.func7, Tryd.ntmps7
    go_wp2_with fail
    refine bodyPost_ret (res_ct rfl rfl (blk_new _ _) agg_Model rfl) rfl ?_
    exact ⟨rfl, below_alloc1 _ _⟩
  · clear hn
    have hb : ((n : Int) != m) = true := by simp [c6]
    by_cases c5 : most < m
    · skip
      go_enter Tryd.func7, Tryd.ntmps7
      go_wp2_with fail
      refine bodyPost_ret (res_ct rfl rfl (blk_new _ _) agg_Model rfl) rfl ?_
      exact ⟨rfl, below_alloc1 _ _⟩
    · skip
      go_enter Tryd.func7, Tryd.ntmps7
      go_wp2_with fail
      refine bodyPost_ret (res_ct rfl rfl (blk_new _ _) agg_Model rfl) rfl ?_
      exact ⟨rfl, below_alloc1 _ _⟩
end Go.Proofs.YtcomnpmkedabeaaDoor

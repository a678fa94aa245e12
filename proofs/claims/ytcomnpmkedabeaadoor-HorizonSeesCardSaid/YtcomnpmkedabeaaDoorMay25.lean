/- hachureref25.May; horizon.check. -/
import Derived.Test.YtcomnpmkedabeaaDoorModel08
set_option linter.unusedVariables false
set_option linter.unusedSimpArgs false
namespace Go.Proofs.YtcomnpmkedabeaaDoor
open Go.RowKit

/-- A cell's and a height's error. -/
def mayC (w h x y hi : Int) : Int := if inG w h x y then (if 0 ≤ hi ∧ hi ≤ 1048576 then 0 else 8) else 4
/-- The eye's height, or the error. -/
def eyeV (f : Int → Int → Int) (w h x y hi : Int) : Int := if mayC w h x y hi = 0 then f x y + hi else 0
theorem mayC_0 {w h x y hi : Int} : mayC w h x y hi = 0 ↔ inG w h x y ∧ 0 ≤ hi ∧ hi ≤ 1048576 := by
  unfold mayC
  constructor
  · intro h
    split at h
    · split at h
      · rename_i a b; exact ⟨a, b⟩
      · simp at h
    · simp at h
  · intro h
    rw [if_pos h.1, if_pos h.2]

set_option maxHeartbeats 2000000 in
set_option maxRecDepth 100000 in
theorem may25_any (ad : Addr) (cap N : Nat) (u : Nat → Int) (w h x y hi : Int) (W : World) (w1 : 1 ≤ w) (w2 : w ≤ 1024) (h1 : 1 ≤ h) (h2 : h ≤ 1024) (hN : (N : Int) = w * h) (hrow : RowAt W ad N u) :
    Calls Tryd.prog 10 #[.agg #[.int .i64 w, .int .i64 h, .slice (some ad) N cap], .agg #[.int .i64 x, .int .i64 y], .int .i64 hi, .agg #[.int .i64 x, .int .i64 y], .int .i64 0] W
      fun e W' => e = .returned (.int .i64 (mayC w h x y hi)) ∧ Below W.heap.size W W' := by
  have HN := Lib.hid hN
  clear hN
  go_enter Tryd.func10, Tryd.ntmps10
  go_wp2_with fail
  have hB := below_alloc (below_alloc (below_alloc1 W (.cells #[.int .i64 w, .int .i64 h, .slice (some ad) N cap] 27)) (.cells #[.int .i64 x, .int .i64 y] 24)) (.cells #[.int .i64 x, .int .i64 y] 24)
  have hrow1 := hrow.below hB
  have n0 := below_blk (below_alloc (below_alloc1 _ (.cells #[.int .i64 x, .int .i64 y] 24)) (.cells #[.int .i64 x, .int .i64 y] 24)) (blk_new W (.cells #[.int .i64 w, .int .i64 h, .slice (some ad) N cap] 27))
  have n2 := blk_new2 (W.alloc (.cells #[.int .i64 w, .int .i64 h, .slice (some ad) N cap] 27)) (.cells #[.int .i64 x, .int .i64 y] 24) (.cells #[.int .i64 x, .int .i64 y] 24)
  rw [alloc_size] at n2
  refine (model_At_any ad cap N u w h x y _ w1 w2 h1 h2 HN.out hrow1).mono ?_
  rintro e w3 ⟨rfl, hb⟩
  replace n0 := below_blk hb n0
  replace n2 := below_blk hb n2
  replace hrow1 := hrow1.below hb
  replace hB := below_next hB hb
  clear hb hrow
  have i_0 := cells_w n0 0 rfl
  have i_1 := cells_w n0 1 rfl
  have i_2 := cells_w n0 2 rfl
  have j_0 := cells_w n2 0 rfl
  have j_1 := cells_w n2 1 rfl
  go_wp2_with fail
  refine (model_At_any ad cap N u w h x y _ w1 w2 h1 h2 HN.out hrow1).mono ?_
  rintro e w4 ⟨rfl, hb⟩
  replace hB := below_next hB hb
  clear hb hrow1 n0 n2 i_0 i_1 i_2 j_0 j_1
  by_cases hin : inG w h x y
  · rw [atV_in hin, atC_in hin]
    have HI := Lib.hid hin
    clear hin
    by_cases k1 : hi < 0
    · have t1 := decide_eq_true k1
      go_wp2_with fail
      go_ret
      exact ⟨ret_int (by unfold mayC; rw [if_pos HI.out, if_neg (by omega)]), hB⟩
    have t1 := decide_eq_false k1
    by_cases k2 : 1048576 < hi
    · have t2 := decide_eq_true k2
      go_wp2_with fail
      go_ret
      exact ⟨ret_int (by unfold mayC; rw [if_pos HI.out, if_neg (by omega)]), hB⟩
    have t2 := decide_eq_false k2
    go_wp2_with fail
    go_ret
    exact ⟨ret_int (by unfold mayC; rw [if_pos HI.out, if_pos (by omega)]), hB⟩
  · rw [atV_out hin, atC_out hin]
    have HI := Lib.hid hin
    clear hin
    go_wp2_with fail
    go_ret
    exact ⟨ret_int (by unfold mayC; rw [if_neg HI.out]), hB⟩

set_option maxHeartbeats 2000000 in
set_option maxRecDepth 100000 in
theorem hor_check_any (g : Nat) (F : Nat → Prop) (w h x y hi : Int) (f : Int → Int → Int) (W : World) (H : GridAt W g F w h f) (hf : inG w h x y → -2147483648 ≤ f x y ∧ f x y ≤ 2147483647) :
    Calls Tryd.prog 19 #[.pointer (some ⟨g, 0, none⟩), .agg #[.int .i64 x, .int .i64 y], .int .i64 hi] W fun e W' => e = .returned (.tuple #[.int .i64 (eyeV f w h x y hi), .int .i64 (mayC w h x y hi)]) ∧ Below W.heap.size W W' := by
  have HF := Lib.hid hf
  clear hf
  go_enter Tryd.func19, Tryd.ntmps19
  go_wp2_with fail
  have hB := below_alloc1 W (.cells #[.int .i64 x, .int .i64 y] 24)
  refine (grid_At_any g F w h x y f _ (H.below hB)).mono ?_
  rintro e w2 ⟨rfl, hb⟩
  replace hB := below_next hB hb
  clear hb
  by_cases hin : inG w h x y
  · rw [atV_in hin, atC_in hin]
    have hfb := HF.out hin
    have HI := Lib.hid hin
    clear hin
    by_cases k1 : hi < 0
    · have t1 := decide_eq_true k1
      have hm : mayC w h x y hi = 8 := by unfold mayC; rw [if_pos HI.out, if_neg (by omega)]
      have he : eyeV f w h x y hi = 0 := by unfold eyeV; rw [hm, if_neg (by omega)]
      have HM := Lib.hid (And.intro hm he)
      clear hm he
      go_wp2_with fail
      go_ret2
      exact ⟨by rw [HM.out.1, HM.out.2]; rfl, hB⟩
    have t1 := decide_eq_false k1
    by_cases k2 : 1048576 < hi
    · have t2 := decide_eq_true k2
      have hm : mayC w h x y hi = 8 := by unfold mayC; rw [if_pos HI.out, if_neg (by omega)]
      have he : eyeV f w h x y hi = 0 := by unfold eyeV; rw [hm, if_neg (by omega)]
      have HM := Lib.hid (And.intro hm he)
      clear hm he
      go_wp2_with fail
      go_ret2
      exact ⟨by rw [HM.out.1, HM.out.2]; rfl, hB⟩
    have t2 := decide_eq_false k2
    have hm : mayC w h x y hi = 0 := mayC_0.2 ⟨HI.out, by omega, by omega⟩
    have he : eyeV f w h x y hi = f x y + hi := by unfold eyeV; rw [if_pos hm]
    have HM := Lib.hid (And.intro hm he)
    clear hm he
    go_wp2_with fail
    go_ret2
    exact ⟨by rw [HM.out.1, HM.out.2]; rfl, hB⟩
  · rw [atV_out hin, atC_out hin]
    have hm : mayC w h x y hi = 4 := by unfold mayC; rw [if_neg hin]
    have he : eyeV f w h x y hi = 0 := by unfold eyeV; rw [hm, if_neg (by omega)]
    have HM := Lib.hid (And.intro hm he)
    clear hin hm he
    go_wp2_with fail
    go_ret2
    exact ⟨by rw [HM.out.1, HM.out.2]; rfl, hB⟩
end Go.Proofs.YtcomnpmkedabeaaDoor

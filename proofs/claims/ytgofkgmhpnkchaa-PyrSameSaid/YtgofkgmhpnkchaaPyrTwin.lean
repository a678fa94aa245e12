/- pyr.Same's pair of levels, and its list: a bool. -/
import Derived.Test.YtgofkgmhpnkchaaEq64
import Derived.Test.YtgofkgmhpnkchaaPyrAt
set_option linter.unusedVariables false
set_option linter.unusedSimpArgs false
namespace Go.Proofs.Ytgofkgmhpnkchaa
open Go.RowKit

/-- A row of ranges. -/
def PairAt (W : World) (b n : Nat) (u v : Nat → Int) : Prop := ∀ i, i < n → W.cell? ⟨b, i * 2, none⟩ = some (.int .i64 (u i)) ∧ W.cell? ⟨b, i * 2 + 1, none⟩ = some (.int .i64 (v i))
theorem PairAt.below {W W' : World} {b n : Nat} {u v : Nat → Int} (h : PairAt W b n u v) (hb : Below W.heap.size W W') : PairAt W' b n u v := fun i hi =>
  ⟨below_cell hb (h i hi).1, below_cell hb (h i hi).2⟩

set_option maxHeartbeats 2000000 in
theorem equal_ranges_any (b1 b2 n n2 : Nat) (u v u2 v2 : Nat → Int) (W : World) (hn : n ≤ 1048576) (hn2 : n2 ≤ 1048576) (h1 : PairAt W b1 n u v) (h2 : PairAt W b2 n2 u2 v2) :
    Calls Try.prog 71 #[.slice (some ⟨b1, 0, none⟩) n n, .slice (some ⟨b2, 0, none⟩) n2 n2] W (Tells (n = n2 ∧ ∀ i, i < n → u i = u2 i ∧ v i = v2 i) W) := by
  have H1 := Lib.hid h1
  have H2 := Lib.hid h2
  clear h1 h2
  by_cases hl : n = n2
  rotate_left
  · have hb : ((n : Int) != (n2 : Int)) = true := by simp; omega
    go_enter Try.func71, Try.ntmps71
    go_wp2_with fail
    go_ret
    exact ⟨false, rfl, ⟨fun h => by (cases h), fun h => absurd h.1 hl⟩, Below.refl _ _⟩
  subst hl
  go_enter Try.func71, Try.ntmps71
  go_wp2_with fail
  go_loopg [13] n (fun q v13 wr => ∃ j : Nat, Hid (j + q = n) ∧ v13 = .int .i64 (j : Int) ∧ Hid (∀ i, i < j → u i = u2 i ∧ v i = v2 i) ∧ Below W.heap.size W wr)
  case atStart => exact ⟨0, Nat.zero_add _, rfl, fun i hi => by omega, Below.refl _ _⟩
  case round =>
    obtain ⟨j, hj, rfl, hall, hb⟩ := hrel
    cases gk with
    | zero =>
      have ht : decide (j < n) = false := decide_eq_false (by have := hj.out; omega)
      have ht2 : decide ((j : Int) < (n : Int)) = false := decide_eq_false (by have := hj.out; omega)
      go_wp2_with fail
      go_ret
      have ej : j = n := hj.out
      exact ⟨true, rfl, ⟨fun _ => ⟨by trivial, fun i hi => hall.out i (by omega)⟩, fun _ => rfl⟩, hb⟩
    | succ m =>
      have hlt : j < n := by have := hj.out; omega
      have ht : decide (j < n) = true := decide_eq_true hlt
      have ht2 : decide ((j : Int) < (n : Int)) = true := decide_eq_true (by omega)
      have hji : (j : Int) < (n : Int) := by omega
      obtain ⟨c1, c2⟩ := (H1.out.below hb) j hlt
      obtain ⟨c3, c4⟩ := (H2.out.below hb) j hlt
      have q1 := fun d os => cell_regrown c1 d os
      have q2 := fun d os => cell_regrown c2 d os
      have q3 := fun d os => cell_regrown c3 d os
      have q4 := fun d os => cell_regrown c4 d os
      have fin : ∀ (wr' : World), Below W.heap.size W wr' → ¬ (u j = u2 j ∧ v j = v2 j) → Tells (n = n ∧ ∀ i, i < n → u i = u2 i ∧ v i = v2 i) W (.returned (.bool false)) wr' := fun wr' hb' hne =>
        ⟨false, rfl, ⟨fun h => by (cases h), fun h => absurd (h.2 j hlt) hne⟩, hb'⟩
      have FIN := Lib.hid fin
      clear fin
      by_cases he : u j = u2 j
      · by_cases he2 : v j = v2 j
        · have hbe : (u j == u2 j) = true := by simp [he]
          have hbe2 : (v j == v2 j) = true := by simp [he2]
          have HE := Lib.hid (And.intro he he2)
          clear he he2
          go_wp2_with fail
          refine wp_quiet (by kernel_rfl) (by kernel_rfl) ?_
          repeat (go_big_quiet_step ((first | fail)))
          refine wpQuiet_nil ?_
          intro w3 hb3
          clear q1 q2 q3 q4 c1 c2 c3 c4
          go_wp2_with fail
          go_roundg m
          case measure => omega
          case rel =>
            refine ⟨j + 1, by have := hj.out; exact (show j + 1 + m = n by omega), by first | rfl | (exact congrArg (Value.int .i64) (by push_cast; omega)), fun i hi => ?_, below_next hb hb3⟩
            by_cases e : i = j
            · subst e; exact HE.out
            · exact hall.out i (by omega)
        · have hbe : (u j == u2 j) = true := by simp [he]
          have hbe2 : (v j == v2 j) = false := by simp [he2]
          have HE := Lib.hid he2
          clear he he2
          go_wp2_with fail
          refine wp_quiet (by kernel_rfl) (by kernel_rfl) ?_
          repeat (go_big_quiet_step ((first | fail)))
          refine wpQuiet_nil ?_
          intro w3 hb3
          clear q1 q2 q3 q4 c1 c2 c3 c4
          go_wp2_with fail
          go_ret
          exact FIN.out _ (below_next hb hb3) (fun h => HE.out h.2)
      · have hbe : (u j == u2 j) = false := by simp [he]
        have HE := Lib.hid he
        clear he
        go_wp2_with fail
        refine wp_quiet (by kernel_rfl) (by kernel_rfl) ?_
        repeat (go_big_quiet_step ((first | fail)))
        refine wpQuiet_nil ?_
        intro w3 hb3
        clear q1 q2 q3 q4 c1 c2 c3 c4
        go_wp2_with fail
        go_ret
        exact ⟨false, rfl, ⟨fun h => by (cases h), fun h => absurd (h.2 j hlt).1 HE.out⟩, below_next hb hb3⟩

/-- What tells two levels apart. -/
def LevSame (a1 b1 : Int) (n1 : Nat) (u1 v1 : Nat → Int) (a2 b2 : Int) (n2 : Nat) (u2 v2 : Nat → Int) : Prop :=
  a1 = a2 ∧ b1 = b2 ∧ n1 = n2 ∧ ∀ i, i < n1 → u1 i = u2 i ∧ v1 i = v2 i

set_option maxHeartbeats 2000000 in
theorem same1_any (a b a2 b2 : Int) (s s2 n n2 : Nat) (u v u2 v2 : Nat → Int) (W : World) (hn : n ≤ 1048576) (hn2 : n2 ≤ 1048576) (h1 : PairAt W s n u v) (h2 : PairAt W s2 n2 u2 v2) :
    Calls Try.prog 70 #[.agg #[.int .i64 a, .int .i64 b, .slice (some ⟨s, 0, none⟩) n n], .agg #[.int .i64 a2, .int .i64 b2, .slice (some ⟨s2, 0, none⟩) n2 n2]] W (Tells (LevSame a b n u v a2 b2 n2 u2 v2) W) := by
  have hB := below_alloc (below_alloc1 W (.cells #[.int .i64 a, .int .i64 b, .slice (some ⟨s, 0, none⟩) n n] 97)) (.cells #[.int .i64 a2, .int .i64 b2, .slice (some ⟨s2, 0, none⟩) n2 n2] 97)
  have H1 := Lib.hid (h1.below hB)
  have H2 := Lib.hid (h2.below hB)
  clear h1 h2
  by_cases ha : a = a2
  rotate_left
  · have hab : (a == a2) = false := by simp [ha]
    have HE := Lib.hid ha
    clear ha
    go_enter Try.func70, Try.ntmps70
    go_wp2_with fail
    go_ret
    exact ⟨false, rfl, ⟨fun h => by (cases h), fun h => absurd h.1 HE.out⟩, hB⟩
  by_cases hb0 : b = b2
  rotate_left
  · have hab : (a == a2) = true := by simp [ha]
    have hbb : (b == b2) = false := by simp [hb0]
    have HE := Lib.hid hb0
    clear hb0 ha
    go_enter Try.func70, Try.ntmps70
    go_wp2_with fail
    go_ret
    exact ⟨false, rfl, ⟨fun h => by (cases h), fun h => absurd h.2.1 HE.out⟩, hB⟩
  subst ha hb0
  go_enter Try.func70, Try.ntmps70
  go_wp2_with fail
  refine (equal_ranges_any s s2 n n2 u v u2 v2 _ hn hn2 H1.out H2.out).mono ?_
  rintro e w2 ⟨r, rfl, hr, hb⟩
  go_wp2_with fail
  go_ret
  exact ⟨r, rfl, hr.trans ⟨fun h => ⟨by trivial, by trivial, h.1, h.2⟩, fun h => h.2.2⟩, below_next hB hb⟩
end Go.Proofs.Ytgofkgmhpnkchaa

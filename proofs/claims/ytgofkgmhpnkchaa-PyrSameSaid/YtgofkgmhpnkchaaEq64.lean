/- slices.Equal of whole numbers: a bool. -/
import Derived.Test.YtgofkgmhpnkchaaFind64
import Derived.Test.YtgofkgmhpnkchaaTail
import Derived.Deep.LoopGhost
set_option linter.unusedVariables false
set_option linter.unusedSimpArgs false
namespace Go.Proofs.Ytgofkgmhpnkchaa
open Go.RowKit

/-- An answer, and what it means. -/
def Tells (p : Prop) (W : World) (e : Ending) (W' : World) : Prop := ∃ r : Bool, e = .returned (.bool r) ∧ (r = true ↔ p) ∧ Below W.heap.size W W'

set_option maxHeartbeats 2000000 in
theorem equal64_any (ad ad2 : Addr) (n n2 cap cap2 : Nat) (u u2 : Nat → Int) (W : World) (hn : n ≤ 1048576) (hn2 : n2 ≤ 1048576) (h1 : RowAt W ad n u) (h2 : RowAt W ad2 n2 u2) :
    Calls Try.prog 81 #[.slice (some ad) n cap, .slice (some ad2) n2 cap2] W (Tells (n = n2 ∧ ∀ i, i < n → u i = u2 i) W) := by
  have H1 := Lib.hid h1
  have H2 := Lib.hid h2
  clear h1 h2
  by_cases hl : n = n2
  rotate_left
  · have hb : ((n : Int) != (n2 : Int)) = true := by simp; omega
    go_enter Try.func81, Try.ntmps81
    go_wp2_with fail
    go_ret
    exact ⟨false, rfl, ⟨fun h => by (cases h), fun h => absurd h.1 hl⟩, Below.refl _ _⟩
  subst hl
  go_enter Try.func81, Try.ntmps81
  go_wp2_with fail
  go_loopg [13] n (fun q v13 wr => ∃ j : Nat, Hid (j + q = n) ∧ v13 = .int .i64 (j : Int) ∧ Hid (∀ i, i < j → u i = u2 i) ∧ Below W.heap.size W wr)
  case atStart => exact ⟨0, Nat.zero_add _, rfl, fun i hi => by omega, Below.refl _ _⟩
  case round =>
    obtain ⟨j, hj, rfl, hall, hb⟩ := hrel
    cases gk with
    | zero =>
      have ht : decide (j < n) = false := decide_eq_false (by have := hj.out; omega)
      have ht2 : decide ((j : Int) < (n : Int)) = false := decide_eq_false (by have := hj.out; omega)
      go_wp2_with fail
      go_ret
      have ej : j = n := hj.out
      exact ⟨true, rfl, ⟨fun _ => ⟨by trivial, fun i hi => hall.out i (by omega)⟩, fun _ => rfl⟩, hb⟩
    | succ m =>
      have hlt : j < n := by have := hj.out; omega
      have ht : decide (j < n) = true := decide_eq_true hlt
      have ht2 : decide ((j : Int) < (n : Int)) = true := decide_eq_true (by omega)
      have hji : (j : Int) < (n : Int) := by omega
      have c1 := (H1.out.below hb) j hlt
      have c2 := (H2.out.below hb) j hlt
      have q1 := fun d os => cell_regrown c1 d os
      have q2 := fun d os => cell_regrown c2 d os
      by_cases he : u j = u2 j
      · have hbe : (u j != u2 j) = false := by simp [he]
        have HE := Lib.hid he
        clear he
        go_wp2_with fail
        refine wp_quiet (by kernel_rfl) (by kernel_rfl) ?_
        repeat (go_big_quiet_step ((first | fail)))
        refine wpQuiet_nil ?_
        intro w3 hb3
        clear q1 q2 c1 c2
        go_wp2_with fail
        go_roundg m
        case measure => omega
        case rel =>
          refine ⟨j + 1, by have := hj.out; exact (show j + 1 + m = n by omega), by first | rfl | (exact congrArg (Value.int .i64) (by push_cast; omega)), fun i hi => ?_, below_next hb hb3⟩
          by_cases e : i = j
          · subst e; exact HE.out
          · exact hall.out i (by omega)
      · have hbe : (u j != u2 j) = true := by simp [he]
        have HE := Lib.hid he
        clear he
        go_wp2_with fail
        refine wp_quiet (by kernel_rfl) (by kernel_rfl) ?_
        repeat (go_big_quiet_step ((first | fail)))
        refine wpQuiet_nil ?_
        intro w3 hb3
        clear q1 q2 c1 c2
        go_wp2_with fail
        go_ret
        exact ⟨false, rfl, ⟨fun h => by (cases h), fun h => absurd (h.2 j hlt) HE.out⟩, below_next hb hb3⟩
end Go.Proofs.Ytgofkgmhpnkchaa

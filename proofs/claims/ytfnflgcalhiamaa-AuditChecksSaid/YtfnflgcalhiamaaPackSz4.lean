/- Texts of this claim, joined: SlabFind. -/
import Derived.Test.YtfnflgcalhiamaaPackSz3
/- Is there another value in a row? (slices.ContainsFunc with slab.Fill's own function) -/
set_option linter.unusedVariables false
set_option linter.unusedSimpArgs false
namespace Go.Proofs.Ytfnflgcalhiamaa
open Go.RowKit

theorem fill1_any (c v0 : Int) (p k n cap : Nat) (w : World) (hn : 0 < n) (h1 : w.cell? ⟨p, 0, none⟩ = some (.slice (some ⟨k, 0, none⟩) n cap)) (h2 : w.cell? ⟨k, 0, none⟩ = some (.int .i32 v0)) :
    Calls Try.prog 78 #[.int .i32 c, .pointer (some ⟨p, 0, none⟩)] w fun e w' => e = .returned (.bool (c != v0)) ∧ w = w' := by
  go_enter Try.func78, Try.ntmps78
  go_wp2
  go_ret
  exact ⟨rfl, rfl⟩

set_option maxHeartbeats 1000000 in
theorem indexf_any (p k n cap : Nat) (g : Nat → Int) (w : World) (hn : 0 < n) (hn2 : n ≤ 1048576) (h1 : w.cell? ⟨p, 0, none⟩ = some (.slice (some ⟨k, 0, none⟩) n cap)) (h2 : ∀ i, i < n → w.cell? ⟨k, i, none⟩ = some (.int .i32 (g i))) :
    Calls Try.prog 80 #[.slice (some ⟨k, 0, none⟩) n cap, .func (.func 78) #[] #[.pointer (some ⟨p, 0, none⟩)]] w fun e w' => ∃ i : Int, e = .returned (.int .i64 i) ∧ (i < 0 → ∀ j, j < n → g j = g 0) ∧ w = w' := by
  go_enter Try.func80, Try.ntmps80
  have H2 := Lib.hid h2
  clear h2
  go_wp2_with fail
  go_loopg [8] n (fun q v8 wr => ∃ m : Nat, Hid (m + q = n) ∧ v8 = .int .i64 (m : Int) ∧ Hid (∀ j, j < m → g j = g 0) ∧ w = wr)
  case atStart => exact ⟨0, Nat.zero_add _, rfl, fun j hj => by omega, rfl⟩
  case round =>
    obtain ⟨m, hm, rfl, hg, rfl⟩ := hrel
    cases gk with
    | zero =>
      have ht : decide (m < n) = false := decide_eq_false (by have := hm.out; omega)
      go_wp2_with fail
      go_ret
      have e : m = n := hm.out
      subst e
      exact ⟨-1, rfl, fun _ => hg.out, rfl⟩
    | succ q =>
      have hlt : m < n := by have := hm.out; omega
      have ht : decide (m < n) = true := decide_eq_true (by omega)
      have hc := H2.out m hlt
      have hc0 := H2.out 0 hn
      by_cases hs : g m = g 0
      · have hb : (g m != g 0) = false := by simp [hs]
        have Hs := Lib.hid hs
        clear hs
        go_wp2_with (go_at_call 78; refine (fill1_any (g m) (g 0) p k n cap _ hn h1 hc0).mono ?_; rintro e w' ⟨rfl, rfl⟩)
        go_roundg q
        case measure => omega
        case rel =>
          refine ⟨m + 1, (by have := hm.out; exact (show m + 1 + q = n by omega)), by first | rfl | exact congrArg (Value.int .i64) (by omega), ?_, rfl⟩
          intro j hj
          rcases Nat.lt_or_ge j m with h | h
          · exact hg.out j h
          · have : j = m := by omega
            subst this
            exact Hs.out
      · have hb : (g m != g 0) = true := by simp [hs]
        clear hs
        go_wp2_with (go_at_call 78; refine (fill1_any (g m) (g 0) p k n cap _ hn h1 hc0).mono ?_; rintro e w' ⟨rfl, rfl⟩)
        go_ret
        exact ⟨_, rfl, fun h => absurd h (by omega), rfl⟩

theorem containsf_any (p k n cap : Nat) (g : Nat → Int) (w : World) (hn : 0 < n) (hn2 : n ≤ 1048576) (h1 : w.cell? ⟨p, 0, none⟩ = some (.slice (some ⟨k, 0, none⟩) n cap)) (h2 : ∀ i, i < n → w.cell? ⟨k, i, none⟩ = some (.int .i32 (g i))) :
    Calls Try.prog 77 #[.slice (some ⟨k, 0, none⟩) n cap, .func (.func 78) #[] #[.pointer (some ⟨p, 0, none⟩)]] w fun e w' => ∃ r : Bool, e = .returned (.bool r) ∧ (r = false → ∀ j, j < n → g j = g 0) ∧ w = w' := by
  go_enter Try.func77, Try.ntmps77
  have H2 := Lib.hid h2
  clear h2
  go_wp2_with fail
  refine (indexf_any p k n cap g _ hn hn2 h1 H2.out).mono ?_
  rintro e w' ⟨i, rfl, hi, rfl⟩
  have Hi := Lib.hid hi
  clear hi
  go_wp2_with fail
  go_ret
  exact ⟨_, rfl, fun h => Hi.out (by simpa using h), rfl⟩
end Go.Proofs.Ytfnflgcalhiamaa

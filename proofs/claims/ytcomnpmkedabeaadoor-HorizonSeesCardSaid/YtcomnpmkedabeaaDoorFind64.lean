/- Rows of whole numbers, wherever they lie; is there a value that may not be? (paint's own) -/
import Derived.Test.YtcomnpmkedabeaaDoorRoom
import Derived.Deep.LoopGhost
set_option linter.unusedVariables false
set_option linter.unusedSimpArgs false
namespace Go.Proofs.YtcomnpmkedabeaaDoor
open Go.RowKit

/-- A row of whole numbers at an address. -/
def RowAt (W : World) (ad : Addr) (n : Nat) (g : Nat → Int) : Prop := ∀ i, i < n → W.cell? (ad.add i) = some (.int .i64 (g i))
theorem add_block (ad : Addr) (i : Nat) : (ad.add i).block = ad.block := by unfold Addr.add; split <;> rfl
theorem RowAt.below {W W2 : World} {ad : Addr} {n : Nat} {g : Nat → Int} (h : RowAt W ad n g) (hb : Below W.heap.size W W2) : RowAt W2 ad n g := fun i hi => below_cell hb (h i hi)
theorem RowAt.mod {S : Nat → Prop} {W W2 : World} {ad : Addr} {n : Nat} {g : Nat → Int} (h : RowAt W ad n g) (hb : Mod S W W2) (hn : ¬ S ad.block) : RowAt W2 ad n g := fun i hi => by
  have h1 := h i hi
  have h2 := World.block_lt_of_cell? W _ h1
  rw [World.cell?_of_block (w := W) (hb.block _ h2 (by rw [add_block]; exact hn))]
  exact h1
theorem RowAt.of_blk {W : World} {k n : Nat} {cs : Array Value} {t : TypeId} {fr : Nat × Nat} {g : Nat → Int} (h : W.heap[k]? = some (.cells cs t fr)) (hg : ∀ i, i < n → cs[i]? = some (.int .i64 (g i))) : RowAt W ⟨k, 0, none⟩ n g := fun i hi => by
  rw [add_plain]
  exact (blk_cell h i).trans (hg i hi)

/-- May a value be a cell's? -/
def mayB (v : Int) : Bool := decide (-2147483648 ≤ v) && decide (v ≤ 2147483647)
theorem mayB_iff {v : Int} : mayB v = true ↔ -2147483648 ≤ v ∧ v ≤ 2147483647 := by simp [mayB]
theorem paint_may_any (v : Int) (w : World) : Calls Tryd.prog 48 #[.int .i64 v] w fun e w' => e = .returned (.bool (mayB v)) ∧ w = w' := by
  by_cases h1 : -2147483648 ≤ v
  · by_cases h2 : v ≤ 2147483647
    · have e : mayB v = true := mayB_iff.2 ⟨h1, h2⟩
      rw [e]
      go_enter Tryd.func48, Tryd.ntmps48
      go_wp2
      go_ret
      exact ⟨rfl, rfl⟩
    · have e : mayB v = false := by simp [mayB, h2]
      rw [e]
      go_enter Tryd.func48, Tryd.ntmps48
      go_wp2
      go_ret
      exact ⟨rfl, rfl⟩
  · have e : mayB v = false := by simp [mayB, h1]
    rw [e]
    go_enter Tryd.func48, Tryd.ntmps48
    go_wp2
    go_ret
    exact ⟨rfl, rfl⟩
theorem paste1_any (v : Int) (w : World) : Calls Tryd.prog 47 #[.int .i64 v] w fun e w' => e = .returned (.bool (!mayB v)) ∧ w = w' := by
  go_enter Tryd.func47, Tryd.ntmps47
  go_wp2_with (go_at_call 48; refine (paint_may_any _ _).mono ?_; rintro e w' ⟨rfl, rfl⟩)
  go_ret
  exact ⟨rfl, rfl⟩

set_option maxHeartbeats 1000000 in
theorem indexf64_any (ad : Addr) (n cap : Nat) (g : Nat → Int) (w : World) (hn2 : n ≤ 1048576) (h2 : RowAt w ad n g) :
    Calls Tryd.prog 69 #[.slice (some ad) n cap, .func (.func 47) #[] #[]] w fun e w' => ∃ i : Int, e = .returned (.int .i64 i) ∧ (i < 0 ↔ ∀ j, j < n → mayB (g j) = true) ∧ w = w' := by
  go_enter Tryd.func69, Tryd.ntmps69
  have H2 := Lib.hid h2
  clear h2
  go_wp2_with fail
  go_loopg [8] n (fun q v8 wr => ∃ m : Nat, Hid (m + q = n) ∧ v8 = .int .i64 (m : Int) ∧ Hid (∀ j, j < m → mayB (g j) = true) ∧ w = wr)
  case atStart => exact ⟨0, Nat.zero_add _, rfl, fun j hj => by omega, rfl⟩
  case round =>
    obtain ⟨m, hm, rfl, hg, rfl⟩ := hrel
    cases gk with
    | zero =>
      have ht : decide (m < n) = false := decide_eq_false (by have := hm.out; omega)
      go_wp2_with fail
      go_ret
      have e : m = n := hm.out
      subst e
      exact ⟨-1, rfl, ⟨fun _ => hg.out, fun _ => by omega⟩, rfl⟩
    | succ q =>
      have hlt : m < n := by have := hm.out; omega
      have ht : decide (m < n) = true := decide_eq_true (by omega)
      have hc := H2.out m hlt
      have hmn : (m : Int) < (n : Int) := by omega
      by_cases hs : mayB (g m) = true
      · have Hs := Lib.hid hs
        go_wp2_with (go_at_call 47; refine (paste1_any (g m) _).mono ?_; rintro e w' ⟨rfl, rfl⟩)
        go_roundg q
        case measure => omega
        case rel =>
          refine ⟨m + 1, (by have := hm.out; exact (show m + 1 + q = n by omega)), by first | rfl | exact congrArg (Value.int .i64) (by omega), ?_, rfl⟩
          intro j hj
          rcases Nat.lt_or_ge j m with h | h
          · exact hg.out j h
          · have : j = m := by omega
            subst this
            exact Hs.out
      · have hs' : mayB (g m) = false := by simpa using hs
        have Hs := Lib.hid hs'
        clear hs
        go_wp2_with (go_at_call 47; refine (paste1_any (g m) _).mono ?_; rintro e w' ⟨rfl, rfl⟩)
        go_ret
        refine ⟨_, rfl, ⟨fun h => absurd h (by omega), fun h => ?_⟩, rfl⟩
        have := h m hlt
        rw [Hs.out] at this
        cases this

theorem contains64_any (ad : Addr) (n cap : Nat) (g : Nat → Int) (w : World) (hn2 : n ≤ 1048576) (h2 : RowAt w ad n g) :
    Calls Tryd.prog 46 #[.slice (some ad) n cap, .func (.func 47) #[] #[]] w fun e w' => ∃ r : Bool, e = .returned (.bool r) ∧ (r = false ↔ ∀ j, j < n → mayB (g j) = true) ∧ w = w' := by
  go_enter Tryd.func46, Tryd.ntmps46
  have H2 := Lib.hid h2
  clear h2
  go_wp2_with fail
  refine (indexf64_any ad n cap g _ hn2 H2.out).mono ?_
  rintro e w' ⟨i, rfl, hi, rfl⟩
  have Hi := Lib.hid hi
  clear hi
  go_wp2_with fail
  go_ret
  refine ⟨_, rfl, ?_, rfl⟩
  rw [← Hi.out]
  simp
end Go.Proofs.YtcomnpmkedabeaaDoor

/- grid.Same's pair of slabs, and its list. -/
import Derived.Test.YtgofkgmhpnkchaaEq64
import Derived.Test.YtgofkgmhpnkchaaGridAt
import Derived.Test.YtgofkgmhpnkchaaSlabCells
set_option linter.unusedVariables false
set_option linter.unusedSimpArgs false
namespace Go.Proofs.Ytgofkgmhpnkchaa
open Go.RowKit

set_option maxHeartbeats 2000000 in
theorem slab_twin_any (b1 b2 : Nat) (F1 F2 : Nat → Prop) (w h : Int) (f f' : Int → Int → Int) (W : World) (w2 : w ≤ 16) (h2 : h ≤ 16) (H1 : SlabAt W b1 F1 w h f) (H2 : SlabAt W b2 F2 w h f') :
    Calls Try.prog 80 #[.pointer (some ⟨b1, 0, none⟩), .pointer (some ⟨b2, 0, none⟩)] W (Tells (∀ x y, 0 ≤ x → x < w → 0 ≤ y → y < h → f x y = f' x y) W) := by
  have w1 := H1.w1
  have h1 := H1.h1
  have hm := mul_bd (a := w) (b := h) (A := 16) (B := 16) (by omega) w2 (by omega) h2
  go_enter Try.func80, Try.ntmps80
  go_wp2_with fail
  refine (slab_Cells_ok b1 F1 w h f W H1).mono ?_
  rintro e w2' ⟨k1, rfl, hk1, hb, cs1, hrow1, _, hcs1⟩
  have H2' := H2.below hb
  have hB := hb
  have HR1 := Lib.hid (RowAt.of_blk hrow1 hcs1)
  clear hb hrow1 hcs1 H1 H2
  go_wp2_with fail
  refine (slab_Cells_ok b2 F2 w h f' w2' H2').mono ?_
  rintro e w3' ⟨k2, rfl, hk2, hb, cs2, hrow2, _, hcs2⟩
  have HR2 := Lib.hid (RowAt.of_blk hrow2 hcs2)
  have HR1' := Lib.hid (HR1.out.below hb)
  have hB3 := below_next hB hb
  obtain ⟨N, hN⟩ : ∃ N, (w * h).toNat = N := ⟨_, rfl⟩
  rw [hN] at HR1' HR2 ⊢
  have hNb : N ≤ 1048576 := by omega
  have HN := Lib.hid hN
  clear hb hrow2 hcs2 H2' hB HR1 hN
  go_wp2_with fail
  refine (equal64_any ⟨k1, 0, none⟩ ⟨k2, 0, none⟩ N N N N _ _ w3' hNb hNb HR1'.out HR2.out).mono ?_
  rintro e w4' ⟨r, rfl, hr, hb⟩
  go_wp2_with fail
  go_ret
  refine ⟨r, rfl, hr.trans ⟨fun hh x y a1 a2 a3 a4 => ?_, fun hh => ⟨by trivial, fun i hi => ?_⟩⟩, below_next hB3 hb⟩
  · have hi := idx_lt a1 a2 a3 a4
    have h9 := hh.2 (y * w + x).toNat (by have := HN.out; omega)
    have e1 := lin_idx (g := f) a1 a2 a3
    have e2 := lin_idx (g := f') a1 a2 a3
    unfold lin at e1 e2
    rw [← e1, ← e2]
    exact h9
  · have hl := lin_at (w := w) (h := h) (i := i) (by omega) (by have := HN.out; omega)
    exact hh _ _ hl.1 hl.2.1 hl.2.2.1 hl.2.2.2.1

/-- Two lists of slabs. -/
def SlabsAt (W : World) (A1 A2 n : Nat) (sw sh : Nat → Int) (f f' : Nat → Int → Int → Int) : Prop :=
  ∀ i, i < n → sw i ≤ 16 ∧ sh i ≤ 16 ∧ ∃ (b1 b2 : Nat) (F1 F2 : Nat → Prop), W.cell? ⟨A1, i, none⟩ = some (.pointer (some ⟨b1, 0, none⟩)) ∧ W.cell? ⟨A2, i, none⟩ = some (.pointer (some ⟨b2, 0, none⟩)) ∧ SlabAt W b1 F1 (sw i) (sh i) (f i) ∧ SlabAt W b2 F2 (sw i) (sh i) (f' i)
theorem SlabsAt.below {W W' : World} {A1 A2 n : Nat} {sw sh : Nat → Int} {f f' : Nat → Int → Int → Int} (H : SlabsAt W A1 A2 n sw sh f f') (hb : Below W.heap.size W W') : SlabsAt W' A1 A2 n sw sh f f' := fun i hi => by
  obtain ⟨h1, h2, b1, b2, F1, F2, h3, h4, h5, h6⟩ := H i hi
  exact ⟨h1, h2, b1, b2, F1, F2, below_cell hb h3, below_cell hb h4, h5.below hb, h6.below hb⟩

set_option maxHeartbeats 2000000 in
theorem equal_slabs_any (A1 A2 n cap cap2 : Nat) (sw sh : Nat → Int) (f f' : Nat → Int → Int → Int) (W : World) (hn : n ≤ 1048576) (H : SlabsAt W A1 A2 n sw sh f f') :
    Calls Try.prog 79 #[.slice (some ⟨A1, 0, none⟩) n cap, .slice (some ⟨A2, 0, none⟩) n cap2, .func (.func 80) #[] #[]] W
      (Tells (∀ i, i < n → ∀ x y, 0 ≤ x → x < sw i → 0 ≤ y → y < sh i → f i x y = f' i x y) W) := by
  have HT := Lib.hid H
  clear H
  go_enter Try.func79, Try.ntmps79
  go_wp2_with fail
  go_loopg [17] n (fun q v17 wr => ∃ j : Nat, Hid (j + q = n) ∧ v17 = .int .i64 (j : Int) ∧ Hid (∀ i, i < j → ∀ x y, 0 ≤ x → x < sw i → 0 ≤ y → y < sh i → f i x y = f' i x y) ∧ Below W.heap.size W wr)
  case atStart => exact ⟨0, Nat.zero_add _, rfl, fun i hi => by omega, Below.refl _ _⟩
  case round =>
    obtain ⟨j, hj, rfl, hall, hb⟩ := hrel
    cases gk with
    | zero =>
      have ht : decide (j < n) = false := decide_eq_false (by have := hj.out; omega)
      have ht2 : decide ((j : Int) < (n : Int)) = false := decide_eq_false (by have := hj.out; omega)
      go_wp2_with fail
      go_ret
      have ej : j = n := hj.out
      exact ⟨true, rfl, ⟨fun _ i hi => hall.out i (by omega), fun _ => rfl⟩, hb⟩
    | succ m =>
      have hlt : j < n := by have := hj.out; omega
      have ht : decide (j < n) = true := decide_eq_true hlt
      have ht2 : decide ((j : Int) < (n : Int)) = true := decide_eq_true (by omega)
      have hji : (j : Int) < (n : Int) := by omega
      obtain ⟨g1, g2, b1, b2, F1, F2, h3, h4, h5, h6⟩ := (HT.out.below hb) j hlt
      have HS := Lib.hid (And.intro h5 h6)
      clear h5 h6
      go_wp2_with fail
      refine (slab_twin_any b1 b2 F1 F2 (sw j) (sh j) (f j) (f' j) wr g1 g2 HS.out.1 HS.out.2).mono ?_
      rintro e w2 ⟨r, rfl, hr, hb2⟩
      have hb3 := below_next hb hb2
      have HRR := Lib.hid hr
      clear h3 h4 hb2 hr
      cases r with
      | true =>
        go_wp2_with fail
        go_roundg m
        case measure => omega
        case rel =>
          refine ⟨j + 1, by have := hj.out; exact (show j + 1 + m = n by omega), by first | rfl | (exact congrArg (Value.int .i64) (by push_cast; omega)), fun i hi => ?_, hb3⟩
          by_cases e : i = j
          · subst e; exact HRR.out.1 (by trivial)
          · exact hall.out i (by omega)
      | false =>
        go_wp2_with fail
        go_ret
        exact ⟨false, rfl, ⟨fun h => by (cases h), fun h => absurd (HRR.out.2 (h j hlt)) (by decide)⟩, hb3⟩
end Go.Proofs.Ytgofkgmhpnkchaa

/- pyr.Same of two pyramids of one land: true. -/
import Derived.Test.YtgfcffaoiladmaaPyrEq
set_option linter.unusedVariables false
set_option linter.unusedSimpArgs false
namespace Go.Proofs.Ytgfcffaoiladmaa
open Go.RowKit

/-- Two rows of levels, alike. -/
def TwinLev (W : World) (A1 A2 L : Nat) : Prop := ∀ k, k < L → ∃ (a b : Int) (b1 b2 n : Nat), n ≤ 1048576 ∧ TwinAt W b1 b2 n ∧
  W.cell? ⟨A1, k * 3, none⟩ = some (.int .i64 a) ∧ W.cell? ⟨A1, k * 3 + 1, none⟩ = some (.int .i64 b) ∧ W.cell? ⟨A1, k * 3 + 2, none⟩ = some (.slice (some ⟨b1, 0, none⟩) n n) ∧
  W.cell? ⟨A2, k * 3, none⟩ = some (.int .i64 a) ∧ W.cell? ⟨A2, k * 3 + 1, none⟩ = some (.int .i64 b) ∧ W.cell? ⟨A2, k * 3 + 2, none⟩ = some (.slice (some ⟨b2, 0, none⟩) n n)
theorem TwinLev.below {W W' : World} {A1 A2 L : Nat} (h : TwinLev W A1 A2 L) (hb : Below W.heap.size W W') : TwinLev W' A1 A2 L := fun k hk => by
  obtain ⟨a, b, b1, b2, n, h0, h1, h2, h3, h4, h5, h6, h7⟩ := h k hk
  exact ⟨a, b, b1, b2, n, h0, h1.below hb, below_cell hb h2, below_cell hb h3, below_cell hb h4, below_cell hb h5, below_cell hb h6, below_cell hb h7⟩

set_option maxHeartbeats 2000000 in
theorem equal_levels_ok (A1 A2 L cap cap2 : Nat) (W : World) (hL : L ≤ 11) (H : TwinLev W A1 A2 L) :
    Calls Try.prog 65 #[.slice (some ⟨A1, 0, none⟩) L cap, .slice (some ⟨A2, 0, none⟩) L cap2, .func (.func 66) #[] #[]] W fun e W' => e = .returned (.bool true) ∧ Below W.heap.size W W' := by
  have HT := Lib.hid H
  clear H
  go_enter Try.func65, Try.ntmps65
  go_wp2_with fail
  go_loopg [17] L (fun q v17 wr => ∃ j : Nat, Hid (j + q = L) ∧ v17 = .int .i64 (j : Int) ∧ Below W.heap.size W wr)
  case atStart => exact ⟨0, Nat.zero_add _, rfl, Below.refl _ _⟩
  case round =>
    obtain ⟨j, hj, rfl, hb⟩ := hrel
    cases gk with
    | zero =>
      have ht : decide (j < L) = false := decide_eq_false (by have := hj.out; omega)
      have ht2 : decide ((j : Int) < (L : Int)) = false := decide_eq_false (by have := hj.out; omega)
      go_wp2_with fail
      go_ret
      exact ⟨rfl, hb⟩
    | succ m =>
      have hlt : j < L := by have := hj.out; omega
      have ht : decide (j < L) = true := decide_eq_true hlt
      have ht2 : decide ((j : Int) < (L : Int)) = true := decide_eq_true (by omega)
      have hji : (j : Int) < (L : Int) := by omega
      obtain ⟨a, b, b1, b2, n, g0, g1, h2, h3, h4, h5, h6, h7⟩ := (HT.out.below hb) j hlt
      have HG1 := Lib.hid g1
      have p5 := fun o => cell_alloc (o := o) h5
      have p6 := fun o => cell_alloc (o := o) h6
      have p7 := fun o => cell_alloc (o := o) h7
      clear g1
      go_wp2_with fail
      refine (same1_ok a b b1 b2 n _ g0 (HG1.out.below (below_alloc (below_alloc1 wr (.cells #[.int .i64 a, .int .i64 b, .slice (some ⟨b1, 0, none⟩) n n] 94)) (.cells #[.int .i64 a, .int .i64 b, .slice (some ⟨b2, 0, none⟩) n n] 94)))).mono ?_
      rintro e w2 ⟨rfl, hb2⟩
      have hb3 := below_next (below_next hb (below_alloc (below_alloc1 wr _) _)) hb2
      clear p5 p6 p7 h2 h3 h4 h5 h6 h7 hb2
      go_wp2_with fail
      go_roundg m
      case measure => omega
      case rel => exact ⟨j + 1, by have := hj.out; exact (show j + 1 + m = L by omega), by first | rfl | (exact congrArg (Value.int .i64) (by push_cast; omega)), hb3⟩

set_option maxHeartbeats 2000000 in
theorem pyr_same_ok (p q : Nat) (F1 F2 : Nat → Prop) (w h : Int) (f : Int → Int → Int) (W : World) (HP : PyrAt W p F1 w h f) (HQ : PyrAt W q F2 w h f) :
    Calls Try.prog 25 #[.pointer (some ⟨p, 0, none⟩), .pointer (some ⟨q, 0, none⟩)] W fun e W' => e = .returned (.bool true) ∧ Below W.heap.size W W' := by
  obtain ⟨A1, cap1, ps1, s1, H1⟩ := HP
  obtain ⟨A2, cap2, ps2, s2, H2⟩ := HQ
  have hL := levs_bd H1.w1 H1.w2 H1.h1 H1.h2
  have hT : TwinLev W A1 A2 (levs w h) := by
    intro k hk
    have e1 := H1.lev k hk
    have e2 := H2.lev k hk
    have bw := lw_bd H1.w1 k
    have bh := lw_bd H1.h1 k
    have hM := mul_bd (a := lw w k) (b := lw h k) (A := 1024) (B := 1024) (by omega) (by have := H1.w2; omega) (by omega) (by have := H1.h2; omega)
    exact ⟨_, _, _, _, _, by unfold area; omega, twin_cells H1.w1 H1.h1 (H1.cells k hk) (H2.cells k hk), cells_w H1.row _ e1.1, cells_w H1.row _ e1.2.1, cells_w H1.row _ e1.2.2, cells_w H2.row _ e2.1, cells_w H2.row _ e2.2.1, cells_w H2.row _ e2.2.2⟩
  have HT := Lib.hid hT
  have hd1 := H1.head
  have hd2 := H2.head
  obtain ⟨L, hLe⟩ : ∃ L, levs w h = L := ⟨_, rfl⟩
  rw [hLe] at HT hd1 hd2 hL
  clear hT hLe H1 H2
  have a_0 := cells_q hd1 0 rfl
  have b_0 := cells_q hd2 0 rfl
  go_enter Try.func25, Try.ntmps25
  go_wp2_with fail
  refine wp_quiet (by kernel_rfl) (by kernel_rfl) ?_
  repeat (go_big_quiet_step ((first | (go_at_call 65; exact Calls.quiet (equal_levels_ok A1 A2 L cap1 cap2 _ hL.2 (HT.out.below (below_regrown W _ _)))))))
  refine wpQuiet_nil ?_
  intro w2 hb2
  go_wp2_with fail
  go_ret
  exact ⟨rfl, hb2⟩
end Go.Proofs.Ytgfcffaoiladmaa

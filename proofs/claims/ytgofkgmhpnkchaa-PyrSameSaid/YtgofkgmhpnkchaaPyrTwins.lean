/- pyr.Same of two pyramids: a bool, and what it means. -/
import Derived.Test.YtgofkgmhpnkchaaPyrTwin
import Derived.Deep.LoopGhost
set_option linter.unusedVariables false
set_option linter.unusedSimpArgs false
namespace Go.Proofs.Ytgofkgmhpnkchaa
open Go.RowKit

theorem some_bool (P : Prop) : ∃ r : Bool, r = true ↔ P := by
  by_cases h : P
  · exact ⟨true, fun _ => h, fun _ => rfl⟩
  · exact ⟨false, fun e => by (cases e), fun e => absurd e h⟩
theorem calls_bool {f : Nat} {args : Array Value} {W : World} {P : Prop} {r : Bool} (H : Calls Try.prog f args W (Tells P W)) (hr : r = true ↔ P) :
    Calls Try.prog f args W fun e W' => e = .returned (.bool r) ∧ Below W.heap.size W W' := by
  refine H.mono ?_
  rintro e W' ⟨r', rfl, hr', hb⟩
  have : r' = r := by
    cases r <;> cases r' <;> simp_all
  subst this
  exact ⟨rfl, hb⟩

/-- A row of levels. -/
def LevRow (W : World) (A L : Nat) (a b : Nat → Int) (s n : Nat → Nat) (u v : Nat → Nat → Int) : Prop := ∀ k, k < L → n k ≤ 1048576 ∧ PairAt W (s k) (n k) (u k) (v k) ∧
  W.cell? ⟨A, k * 3, none⟩ = some (.int .i64 (a k)) ∧ W.cell? ⟨A, k * 3 + 1, none⟩ = some (.int .i64 (b k)) ∧ W.cell? ⟨A, k * 3 + 2, none⟩ = some (.slice (some ⟨s k, 0, none⟩) (n k) (n k))
theorem LevRow.below {W W' : World} {A L : Nat} {a b : Nat → Int} {s n : Nat → Nat} {u v : Nat → Nat → Int} (h : LevRow W A L a b s n u v) (hb : Below W.heap.size W W') : LevRow W' A L a b s n u v := fun k hk => by
  obtain ⟨h0, h1, h2, h3, h4⟩ := h k hk
  exact ⟨h0, h1.below hb, below_cell hb h2, below_cell hb h3, below_cell hb h4⟩

set_option maxHeartbeats 2000000 in
theorem equal_levels_any (A1 A2 L L2 cap cap2 : Nat) (a1 b1 a2 b2 : Nat → Int) (s1 n1 s2 n2 : Nat → Nat) (u1 v1 u2 v2 : Nat → Nat → Int) (W : World) (hL : L ≤ 11) (hL2 : L2 ≤ 11) (H1 : LevRow W A1 L a1 b1 s1 n1 u1 v1) (H2 : LevRow W A2 L2 a2 b2 s2 n2 u2 v2) :
    Calls Try.prog 69 #[.slice (some ⟨A1, 0, none⟩) L cap, .slice (some ⟨A2, 0, none⟩) L2 cap2, .func (.func 70) #[] #[]] W
      (Tells (L = L2 ∧ ∀ k, k < L → LevSame (a1 k) (b1 k) (n1 k) (u1 k) (v1 k) (a2 k) (b2 k) (n2 k) (u2 k) (v2 k)) W) := by
  have HT1 := Lib.hid H1
  have HT2 := Lib.hid H2
  clear H1 H2
  by_cases hl : L = L2
  rotate_left
  · have hb : ((L : Int) != (L2 : Int)) = true := by simp; omega
    go_enter Try.func69, Try.ntmps69
    go_wp2_with fail
    go_ret
    exact ⟨false, rfl, ⟨fun h => by (cases h), fun h => absurd h.1 hl⟩, Below.refl _ _⟩
  subst hl
  go_enter Try.func69, Try.ntmps69
  go_wp2_with fail
  go_loopg [17] L (fun q v17 wr => ∃ j : Nat, Hid (j + q = L) ∧ v17 = .int .i64 (j : Int) ∧ Hid (∀ k, k < j → LevSame (a1 k) (b1 k) (n1 k) (u1 k) (v1 k) (a2 k) (b2 k) (n2 k) (u2 k) (v2 k)) ∧ Below W.heap.size W wr)
  case atStart => exact ⟨0, Nat.zero_add _, rfl, fun i hi => by omega, Below.refl _ _⟩
  case round =>
    obtain ⟨j, hj, rfl, hall, hb⟩ := hrel
    cases gk with
    | zero =>
      have ht : decide (j < L) = false := decide_eq_false (by have := hj.out; omega)
      have ht2 : decide ((j : Int) < (L : Int)) = false := decide_eq_false (by have := hj.out; omega)
      go_wp2_with fail
      go_ret
      have ej : j = L := hj.out
      exact ⟨true, rfl, ⟨fun _ => ⟨by trivial, fun i hi => hall.out i (by omega)⟩, fun _ => rfl⟩, hb⟩
    | succ m =>
      have hlt : j < L := by have := hj.out; omega
      have ht : decide (j < L) = true := decide_eq_true hlt
      have ht2 : decide ((j : Int) < (L : Int)) = true := decide_eq_true (by omega)
      have hji : (j : Int) < (L : Int) := by omega
      obtain ⟨g0, g1, h2, h3, h4⟩ := (HT1.out.below hb) j hlt
      obtain ⟨g5, g6, h5, h6, h7⟩ := (HT2.out.below hb) j hlt
      have HG1 := Lib.hid g1
      have HG6 := Lib.hid g6
      generalize eA1 : a1 j = A1j at *
      generalize eB1 : b1 j = B1j at *
      generalize eA2 : a2 j = A2j at *
      generalize eB2 : b2 j = B2j at *
      generalize eN1 : n1 j = N1j at *
      generalize eN2 : n2 j = N2j at *
      generalize eS1 : s1 j = S1j at *
      generalize eS2 : s2 j = S2j at *
      have HEE := Lib.hid (And.intro eA1 (And.intro eB1 (And.intro eN1 (And.intro eA2 (And.intro eB2 eN2)))))
      have p5 := fun o => cell_alloc (o := o) h5
      have p6 := fun o => cell_alloc (o := o) h6
      have p7 := fun o => cell_alloc (o := o) h7
      clear g1 g6 eA1 eB1 eN1 eA2 eB2 eN2 eS1 eS2
      go_wp2_with fail
      have hB2 := below_alloc (below_alloc1 wr (.cells #[.int .i64 A1j, .int .i64 B1j, .slice (some ⟨S1j, 0, none⟩) N1j N1j] 97)) (.cells #[.int .i64 A2j, .int .i64 B2j, .slice (some ⟨S2j, 0, none⟩) N2j N2j] 97)
      refine (same1_any A1j B1j A2j B2j S1j S2j N1j N2j (u1 j) (v1 j) (u2 j) (v2 j) _ g0 g5 (HG1.out.below hB2) (HG6.out.below hB2)).mono ?_
      rintro e w2 ⟨r, rfl, hr, hb2⟩
      have hb3 := below_next (below_next hb hB2) hb2
      have HRR := Lib.hid hr
      clear p5 p6 p7 h2 h3 h4 h5 h6 h7 hb2 hr hB2
      have hfact : ∀ (P : Prop), Hid (r = true ↔ LevSame A1j B1j N1j (u1 j) (v1 j) A2j B2j N2j (u2 j) (v2 j)) → True := fun _ _ => trivial
      clear hfact
      obtain ⟨e1, e2, e3, e4, e5, e6⟩ := HEE.out
      have HS : Hid (r = true ↔ LevSame (a1 j) (b1 j) (n1 j) (u1 j) (v1 j) (a2 j) (b2 j) (n2 j) (u2 j) (v2 j)) := by
        rw [e1, e2, e3, e4, e5, e6]; exact HRR
      clear e1 e2 e3 e4 e5 e6
      cases r with
      | true =>
        go_wp2_with fail
        go_roundg m
        case measure => omega
        case rel =>
          refine ⟨j + 1, by have := hj.out; exact (show j + 1 + m = L by omega), by first | rfl | (exact congrArg (Value.int .i64) (by push_cast; omega)), fun i hi => ?_, hb3⟩
          by_cases e : i = j
          · subst e; exact HS.out.1 (by trivial)
          · exact hall.out i (by omega)
      | false =>
        go_wp2_with fail
        go_ret
        exact ⟨false, rfl, ⟨fun h => by (cases h), fun h => absurd (HS.out.2 (h.2 j hlt)) (by decide)⟩, hb3⟩

/-- What lies in a pyramid's level: two functions. -/
theorem cells_pair {W : World} {b : Nat} {w h : Int} {R : Int → Int → Int → Int → Prop} (w1 : 0 < w) (H : CellsAt W b w h R) : ∃ u v : Nat → Int, PairAt W b (w * h).toNat u v ∧ ∀ x y, 0 ≤ x → x < w → 0 ≤ y → y < h → R x y (u (y * w + x).toNat) (v (y * w + x).toNat) := by
  obtain ⟨cs, h1, h2⟩ := H
  have h3 : ∀ i : Nat, ∃ p : Int × Int, (i : Int) < w * h → cs[i * 2]? = some (.int .i64 p.1) ∧ cs[i * 2 + 1]? = some (.int .i64 p.2) ∧ R ((i : Int) % w) ((i : Int) / w) p.1 p.2 := fun i => by
    by_cases hi : (i : Int) < w * h
    · have hl := lin_at (w := w) (h := h) (i := i) w1 hi
      obtain ⟨a, c, k1, k2, k3⟩ := h2 _ _ hl.1 hl.2.1 hl.2.2.1 hl.2.2.2.1
      rw [hl.2.2.2.2, Int.toNat_natCast] at k1 k2
      exact ⟨(a, c), fun _ => ⟨k1, k2, k3⟩⟩
    · exact ⟨(0, 0), fun h => absurd h hi⟩
  obtain ⟨g, hg⟩ := Classical.skolem.1 h3
  refine ⟨fun i => (g i).1, fun i => (g i).2, fun i hi => ?_, fun x y a1 a2 a3 a4 => ?_⟩
  · have := hg i (by omega)
    exact ⟨cells_w h1 _ this.1, cells_w h1 _ this.2.1⟩
  · have hi := idx_lt a1 a2 a3 a4
    have hl := lin_at (w := w) (h := h) (i := (y * w + x).toNat) w1 (by omega)
    obtain ⟨a, c, k1, k2, k3⟩ := h2 x y a1 a2 a3 a4
    have := hg (y * w + x).toNat (by omega)
    rw [k1] at this
    rw [k2] at this
    obtain ⟨e1, e2, _⟩ := this
    injection e1 with e1
    injection e2 with e2
    injection e1 with _ e1
    injection e2 with _ e2
    show R x y (g _).1 (g _).2
    rw [← e1, ← e2]
    exact k3

set_option maxHeartbeats 2000000 in
theorem pyr_same_any (p q : Nat) (F1 F2 : Nat → Prop) (w h w' h' : Int) (f f' : Int → Int → Int) (W : World) (HP : PyrAt W p F1 w h f) (HQ : PyrAt W q F2 w' h' f') :
    Calls Try.prog 29 #[.pointer (some ⟨p, 0, none⟩), .pointer (some ⟨q, 0, none⟩)] W (Tells (w = w' ∧ h = h' ∧ ∀ X Y, 0 ≤ X → X < w → 0 ≤ Y → Y < h → f X Y = f' X Y) W) := by
  obtain ⟨A1, cap1, ps1, s1, H1⟩ := HP
  obtain ⟨A2, cap2, ps2, s2, H2⟩ := HQ
  have hL1 := levs_bd H1.w1 H1.w2 H1.h1 H1.h2
  have hL2 := levs_bd H2.w1 H2.w2 H2.h1 H2.h2
  have hp1 : ∀ k : Nat, ∃ uv : (Nat → Int) × (Nat → Int), k < levs w h → PairAt W (s1 k) (lw w k * lw h k).toNat uv.1 uv.2 ∧ ∀ x y, 0 ≤ x → x < lw w k → 0 ≤ y → y < lw h k → Rng f w h k x y (uv.1 (y * lw w k + x).toNat) (uv.2 (y * lw w k + x).toNat) := fun k => by
    by_cases hk : k < levs w h
    · obtain ⟨u, v, h1, h2⟩ := cells_pair (by have := lw_bd H1.w1 k; omega) (H1.cells k hk)
      exact ⟨(u, v), fun _ => ⟨h1, h2⟩⟩
    · exact ⟨(fun _ => 0, fun _ => 0), fun h => absurd h hk⟩
  have hp2 : ∀ k : Nat, ∃ uv : (Nat → Int) × (Nat → Int), k < levs w' h' → PairAt W (s2 k) (lw w' k * lw h' k).toNat uv.1 uv.2 ∧ ∀ x y, 0 ≤ x → x < lw w' k → 0 ≤ y → y < lw h' k → Rng f' w' h' k x y (uv.1 (y * lw w' k + x).toNat) (uv.2 (y * lw w' k + x).toNat) := fun k => by
    by_cases hk : k < levs w' h'
    · obtain ⟨u, v, h1, h2⟩ := cells_pair (by have := lw_bd H2.w1 k; omega) (H2.cells k hk)
      exact ⟨(u, v), fun _ => ⟨h1, h2⟩⟩
    · exact ⟨(fun _ => 0, fun _ => 0), fun h => absurd h hk⟩
  obtain ⟨g1, hg1⟩ := Classical.skolem.1 hp1
  obtain ⟨g2, hg2⟩ := Classical.skolem.1 hp2
  have hT1 : LevRow W A1 (levs w h) (fun k => lw w k) (fun k => lw h k) s1 (fun k => area w h k) (fun k => (g1 k).1) (fun k => (g1 k).2) := by
    intro k hk
    have e1 := H1.lev k hk
    have bw := lw_bd H1.w1 k
    have bh := lw_bd H1.h1 k
    have hM := mul_bd (a := lw w k) (b := lw h k) (A := 1024) (B := 1024) (by omega) (by have := H1.w2; omega) (by omega) (by have := H1.h2; omega)
    exact ⟨by show area w h k ≤ _; unfold area; omega, (hg1 k hk).1, cells_w H1.row _ e1.1, cells_w H1.row _ e1.2.1, cells_w H1.row _ e1.2.2⟩
  have hT2 : LevRow W A2 (levs w' h') (fun k => lw w' k) (fun k => lw h' k) s2 (fun k => area w' h' k) (fun k => (g2 k).1) (fun k => (g2 k).2) := by
    intro k hk
    have e1 := H2.lev k hk
    have bw := lw_bd H2.w1 k
    have bh := lw_bd H2.h1 k
    have hM := mul_bd (a := lw w' k) (b := lw h' k) (A := 1024) (B := 1024) (by omega) (by have := H2.w2; omega) (by omega) (by have := H2.h2; omega)
    exact ⟨by show area w' h' k ≤ _; unfold area; omega, (hg2 k hk).1, cells_w H2.row _ e1.1, cells_w H2.row _ e1.2.1, cells_w H2.row _ e1.2.2⟩
  have hI : (levs w h = levs w' h' ∧ ∀ k, k < levs w h → LevSame (lw w k) (lw h k) (area w h k) (g1 k).1 (g1 k).2 (lw w' k) (lw h' k) (area w' h' k) (g2 k).1 (g2 k).2) ↔ (w = w' ∧ h = h' ∧ ∀ X Y, 0 ≤ X → X < w → 0 ≤ Y → Y < h → f X Y = f' X Y) := by
    constructor
    · rintro ⟨e0, hall⟩
      obtain ⟨e1, e2, e3, e4⟩ := hall 0 (by omega)
      rw [lw0, lw0] at e1
      rw [lw0, lw0] at e2
      subst e1 e2
      refine ⟨rfl, rfl, fun X Y b1 b2 b3 b4 => ?_⟩
      have hi := idx_lt b1 b2 b3 b4
      have k1 := (hg1 0 (by omega)).2 X Y b1 (by rw [lw0]; exact b2) b3 (by rw [lw0]; exact b4)
      have k2 := (hg2 0 (by omega)).2 X Y b1 (by rw [lw0]; exact b2) b3 (by rw [lw0]; exact b4)
      have k3 := e4 (Y * w + X).toNat (by unfold area; rw [lw0, lw0]; omega)
      rw [lw0] at k1 k2
      have m1 := RngOn.unique k1 (rng0 b1 b2 b3 b4)
      have m2 := RngOn.unique k2 (rng0 b1 b2 b3 b4)
      rw [← m1.1, ← m2.1]
      exact k3.1
    · rintro ⟨e1, e2, hall⟩
      subst e1 e2
      refine ⟨rfl, fun k hk => ⟨rfl, rfl, rfl, fun i hi => ?_⟩⟩
      have bw := lw_bd H1.w1 k
      have bh := lw_bd H1.h1 k
      have hl := lin_at (w := lw w k) (h := lw h k) (i := i) (by omega) (by unfold area at hi; omega)
      have k1 := (hg1 k hk).2 _ _ hl.1 hl.2.1 hl.2.2.1 hl.2.2.2.1
      have k2 := (hg2 k hk).2 _ _ hl.1 hl.2.1 hl.2.2.1 hl.2.2.2.1
      rw [hl.2.2.2.2, Int.toNat_natCast] at k1 k2
      exact RngOn.unique k1 (RngOn.congr k2 (fun u v hs => hall u v hs.1 hs.2.1 hs.2.2.1 hs.2.2.2.1))
  obtain ⟨r, hr⟩ := some_bool (w = w' ∧ h = h' ∧ ∀ X Y, 0 ≤ X → X < w → 0 ≤ Y → Y < h → f X Y = f' X Y)
  have HI := Lib.hid (hr.trans hI.symm)
  have HR := Lib.hid hr
  have HT1 := Lib.hid hT1
  have HT2 := Lib.hid hT2
  have hd1 := H1.head
  have hd2 := H2.head
  obtain ⟨L, hLe⟩ : ∃ L, levs w h = L := ⟨_, rfl⟩
  obtain ⟨L2, hLe2⟩ : ∃ L2, levs w' h' = L2 := ⟨_, rfl⟩
  rw [hLe] at HT1 HI hd1 hL1
  rw [hLe2] at HT2 HI hd2 hL2
  clear hr hT1 hT2 hLe hLe2 H1 H2 hI hg1 hg2 hp1 hp2
  have a_0 := cells_q hd1 0 rfl
  have b_0 := cells_q hd2 0 rfl
  go_enter Try.func29, Try.ntmps29
  go_wp2_with fail
  refine wp_quiet (by kernel_rfl) (by kernel_rfl) ?_
  repeat (go_big_quiet_step ((first | (go_at_call 69; exact Calls.quiet (calls_bool (equal_levels_any A1 A2 L L2 cap1 cap2 _ _ _ _ _ _ _ _ _ _ _ _ _ hL1.2 hL2.2 (HT1.out.below (below_regrown W _ _)) (HT2.out.below (below_regrown W _ _))) HI.out)))))
  refine wpQuiet_nil ?_
  intro w2 hb2
  go_wp2_with fail
  go_ret
  exact ⟨r, rfl, HR.out, hb2⟩
end Go.Proofs.Ytgofkgmhpnkchaa

/- Texts of this claim, joined: Fen, Rect2, Slab, SlabNew, SlabRough. -/
import Derived.Test.YtfnflgcalhiamaaPackSz1
import Derived.Test.YtfnflgcalhiamaaPackSz2
import Derived.Deep.LoopGhost
import Derived.Deep.RegionLaw
import Derived.Deep.RegionHeld3
/- What a fen is in memory; its size, its sums, a cell's number. -/
set_option linter.unusedVariables false
set_option linter.unusedSimpArgs false
namespace Go.Proofs.Ytfnflgcalhiamaa
open Go.RowKit

theorem and_go {n : Nat} (h : 1 ≤ n) (h2 : n ≤ 1024) : bits .and .i64 (n : Int) ((n : Int) - 1) = ((n - lb n : Nat) : Int) := by
  have k : ∀ n : Nat, n < 1025 → 1 ≤ n → bits .and .i64 (n : Int) ((n : Int) - 1) = ((n - lb n : Nat) : Int) := by decide +kernel
  exact k n (by omega) h
theorem low_go {n : Nat} (h : 1 ≤ n) (h2 : n ≤ 1024) : bits .and .i64 (n : Int) (-(n : Int)) = ((lb n : Nat) : Int) := by
  have k : ∀ n : Nat, n < 1025 → 1 ≤ n → bits .and .i64 (n : Int) (-(n : Int)) = ((lb n : Nat) : Int) := by decide +kernel
  exact k n (by omega) h
/-- A fen's parts. -/
structure FenRaw (W : World) (b A N cap w h : Nat) (cs : Array Value) (S : Nat → Nat → Int) : Prop where
  w1 : 1 ≤ w
  w2 : w ≤ 1024
  h1 : 1 ≤ h
  h2 : h ≤ 1024
  n_eq : N = (w + 1) * (h + 1)
  cap_le : N ≤ cap
  ne : A ≠ b
  head : W.heap[b]? = some (.cells #[.int .i64 (w : Int), .int .i64 (h : Int), .slice (some ⟨A, 0, none⟩) N cap] 77 (0, 0))
  row : W.heap[A]? = some (.cells cs 2 (0, 0))
  size : cs.size = N
  val : ∀ x y, 1 ≤ x → x ≤ w → 1 ≤ y → y ≤ h → cs[y * (w + 1) + x]? = some (.int .i64 (S x y))
/-- A fen at a block, its numbers in another one. -/
def FenAt (W : World) (b A w h : Nat) (S : Nat → Nat → Int) : Prop := ∃ N cap cs, FenRaw W b A N cap w h cs S
section
variable {W W2 : World} {b A N cap w h : Nat} {cs : Array Value} {S S' : Nat → Nat → Int} {Q : Nat → Prop}
theorem FenRaw.below (H : FenRaw W b A N cap w h cs S) (hb : Below W.heap.size W W2) : FenRaw W2 b A N cap w h cs S :=
  ⟨H.w1, H.w2, H.h1, H.h2, H.n_eq, H.cap_le, H.ne, below_blk hb H.head, below_blk hb H.row, H.size, H.val⟩
theorem FenAt.below (H : FenAt W b A w h S) (hb : Below W.heap.size W W2) : FenAt W2 b A w h S := by
  obtain ⟨N, cap, cs, H⟩ := H
  exact ⟨N, cap, cs, H.below hb⟩
theorem FenAt.mod (H : FenAt W b A w h S) (hm : Mod Q W W2) (h1 : ¬ Q b) (h2 : ¬ Q A) : FenAt W2 b A w h S := by
  obtain ⟨N, cap, cs, H⟩ := H
  exact ⟨N, cap, cs, H.w1, H.w2, H.h1, H.h2, H.n_eq, H.cap_le, H.ne, hm.blk H.head h1, hm.blk H.row h2, H.size, H.val⟩
theorem FenAt.congr (H : FenAt W b A w h S) (e : ∀ x y, 1 ≤ x → x ≤ w → 1 ≤ y → y ≤ h → S' x y = S x y) : FenAt W b A w h S' := by
  obtain ⟨N, cap, cs, H⟩ := H
  exact ⟨N, cap, cs, H.w1, H.w2, H.h1, H.h2, H.n_eq, H.cap_le, H.ne, H.head, H.row, H.size, fun x y a1 a2 a3 a4 => by rw [e x y a1 a2 a3 a4]; exact H.val x y a1 a2 a3 a4⟩
theorem FenAt.lt (H : FenAt W b A w h S) : b < W.heap.size ∧ A < W.heap.size := by
  obtain ⟨N, cap, cs, H⟩ := H
  exact ⟨blk_lt H.head, blk_lt H.row⟩
end
/-- A place's number. -/
theorem place_bd {w h x y : Nat} (hw : w ≤ 1024) (hh : h ≤ 1024) (hx : x ≤ w) (hy : y ≤ h) : y * (w + 1) + x < (w + 1) * (h + 1) ∧ y * (w + 1) ≤ 1049600 := by
  have h1 := Nat.mul_le_mul_right (w + 1) (show y + 1 ≤ h + 1 by omega)
  rw [Nat.add_mul, Nat.one_mul, Nat.mul_comm (h + 1)] at h1
  have h2 := Nat.mul_le_mul (show y ≤ 1024 by omega) (show w + 1 ≤ 1025 by omega)
  omega
set_option maxHeartbeats 1000000 in
set_option maxRecDepth 100000 in
theorem fen_at_ok (b w h x y : Nat) (c : Value) (W : World) (hd : W.heap[b]? = some (.cells #[.int .i64 (w : Int), .int .i64 (h : Int), c] 77 (0, 0))) (hw : w ≤ 1024) (hh : h ≤ 1024) (hx : x ≤ w) (hy : y ≤ h) :
    Calls Try.prog 27 #[.pointer (some ⟨b, 0, none⟩), .int .i64 (x : Int), .int .i64 (y : Int)] W fun e W' => e = .returned (.int .i64 ((y * (w + 1) + x : Nat) : Int)) ∧ Below W.heap.size W W' := by
  have hp := place_bd hw hh hx hy
  have w1 : wrap64 ((w : Int) + 1) = (w : Int) + 1 := wrap64_id (by omega) (by omega)
  have e1 : (y : Int) * ((w : Int) + 1) = ((y * (w + 1) : Nat) : Int) := by push_cast; rfl
  obtain ⟨M, hM⟩ : ∃ M, y * (w + 1) = M := ⟨_, rfl⟩
  rw [hM] at hp e1 ⊢
  have w2 : wrap64 ((y : Int) * ((w : Int) + 1)) = (M : Int) := by rw [e1]; exact wrap64_id (by omega) (by omega)
  have w3 : wrap64 ((M : Int) + (x : Int)) = (M : Int) + (x : Int) := wrap64_id (by omega) (by omega)
  clear e1 hM
  have i_0 := cells_w hd 0 rfl
  have i_1 := cells_w hd 1 rfl
  go_enter Try.func27, Try.ntmps27
  go_wp2_with fail
  go_ret
  exact ⟨ret_int (by push_cast; first | rfl | exact w3), Below.refl _ _⟩
set_option maxRecDepth 100000 in
theorem fen_Size_ok (b A w h : Nat) (S : Nat → Nat → Int) (W : World) (H : FenAt W b A w h S) :
    Calls Try.prog 101 #[.pointer (some ⟨b, 0, none⟩)] W fun e W' => e = .returned (.tuple #[.int .i64 (w : Int), .int .i64 (h : Int)]) ∧ Below W.heap.size W W' := by
  obtain ⟨N, cap, cs, H⟩ := H
  have hd := H.head
  go_enter Try.func101, Try.ntmps101
  go_wp2_with fail
  have k_0 := cells_q hd 0 rfl
  have k_1 := cells_q hd 1 rfl
  refine wp_quiet (by kernel_rfl) (by kernel_rfl) ?_
  repeat (go_big_quiet_step ((first | fail)))
  refine wpQuiet_nil ?_
  intro w2 hb2
  clear k_0 k_1
  go_wp2_with fail
  go_ret2
  exact ⟨rfl, hb2⟩

/-- Numbers that may be. -/
def FenB (f : Int → Int → Int) (w h : Nat) : Prop := ∀ x y : Int, 0 ≤ x → x < w → 0 ≤ y → y < h → -4294967296 ≤ f x y ∧ f x y ≤ 4294967296
theorem row_bd {f : Int → Int → Int} {w h : Nat} (hB : FenB f w h) (hw : w ≤ 1024) {x y : Nat} (hx : x ≤ w) (hy : 1 ≤ y) (hy2 : y ≤ h) : -4398046511104 ≤ pre (row1 f y) x ∧ pre (row1 f y) x ≤ 4398046511104 := by
  have := pre_bd (a := row1 f y) (A := 4294967296) (by omega) x (fun i h1 h2 => by unfold row1; exact hB _ _ (by omega) (by omega) (by omega) (by omega))
  omega
theorem corn_bd {f : Int → Int → Int} {w h : Nat} (hB : FenB f w h) (hw : w ≤ 1024) (hh : h ≤ 1024) {x y : Nat} (hx : x ≤ w) (hy : y ≤ h) : -4503599627370496 ≤ cornS f x y ∧ cornS f x y ≤ 4503599627370496 := by
  have := pre_bd (a := fun Y => pre (row1 f Y) x) (A := 4398046511104) (by omega) y (fun i h1 h2 => row_bd hB hw hx h1 (by omega))
  unfold cornS
  omega

set_option maxHeartbeats 4000000 in
set_option maxRecDepth 100000 in
theorem corner_ok (b A w h : Nat) (f : Int → Int → Int) (x0 y0 : Nat) (W : World) (H : FenAt W b A w h (fenS f)) (hB : FenB f w h) (hx : x0 ≤ w) (hy : y0 ≤ h) :
    Calls Try.prog 73 #[.pointer (some ⟨b, 0, none⟩), .int .i64 (x0 : Int), .int .i64 (y0 : Int)] W fun e W' => e = .returned (.int .i64 (cornS f x0 y0)) ∧ Below W.heap.size W W' := by
  obtain ⟨N, cap, cs, H⟩ := H
  have hw2 := H.w2
  have hh2 := H.h2
  have hcap := H.cap_le
  have hneq := H.n_eq
  have hd := H.head
  have HV := Lib.hid H.val
  have hrow := H.row
  have HCB := Lib.hid (fun (x y : Nat) (h1 : x ≤ w) (h2 : y ≤ h) => corn_bd hB hw2 hh2 h1 h2)
  have hNb : N ≤ 1050625 := by
    have := Nat.mul_le_mul (show w + 1 ≤ 1025 by omega) (show h + 1 ≤ 1025 by omega)
    omega
  have HNE := Lib.hid hneq
  clear H hneq
  go_enter Try.func73, Try.ntmps73
  go_wp2_with fail
  go_loopg [7, 8, 9] y0 (fun q v7 v8 v9 wr => ∃ y : Nat, Hid (y ≤ q ∧ y ≤ y0) ∧ v8 = .int .i64 (y : Int) ∧ v7 = .int .i64 (cornS f x0 y0 - cornS f x0 y) ∧ Below W.heap.size W wr)
  case atStart => exact ⟨y0, ⟨Nat.le_refl _, Nat.le_refl _⟩, rfl, congrArg (Value.int .i64) (by omega), Below.refl _ _⟩
  case round =>
    obtain ⟨y, hyq, rfl, rfl, hbr⟩ := hrel
    obtain ⟨hyq, hyy⟩ := hyq.out
    by_cases hy1 : 1 ≤ y
    rotate_left
    · have hy0 : y = 0 := by omega
      subst hy0
      go_wp2_with fail
      go_ret
      refine ⟨ret_int ?_, hbr⟩
      show cornS f x0 y0 - 0 = _
      omega
    · have t1 : decide (0 < y) = true := decide_eq_true hy1
      have t2 : decide ((0 : Int) < (y : Int)) = true := decide_eq_true (by omega)
      have hbY := lb_bd hy1 (by omega)
      have ey := and_go hy1 (by omega)
      have wy : wrap64 ((y : Int) - 1) = (y : Int) - 1 := wrap64_id (by omega) (by omega)
      obtain ⟨m, rfl⟩ : ∃ m, gk = m + 1 := ⟨gk - 1, by omega⟩
      go_wp2_with fail
      go_loopg [7, 9] x0 (fun q v7 v9 wi => ∃ x : Nat, Hid (x ≤ q ∧ x ≤ x0) ∧ v9 = .int .i64 (x : Int) ∧ v7 = .int .i64 (cornS f x0 y0 - cornS f x0 y + (part (fun Y => pre (row1 f Y) x0) y - part (fun Y => pre (row1 f Y) x) y)) ∧ Below W.heap.size W wi)
      case atStart => exact ⟨x0, ⟨Nat.le_refl _, Nat.le_refl _⟩, rfl, congrArg (Value.int .i64) (by omega), hbr⟩
      case round =>
        clear hbr
        obtain ⟨x, hxq, rfl, rfl, hbr⟩ := hrel
        obtain ⟨hxq, hxx⟩ := hxq.out
        by_cases hx1 : 1 ≤ x
        rotate_left
        · have hx0 : x = 0 := by omega
          subst hx0
          go_wp2_with fail
          go_roundg m
          case measure => omega
          case rel =>
            refine ⟨y - lb y, ⟨by omega, by omega⟩, rfl, congrArg (Value.int .i64) ?_, hbr⟩
            have z : part (fun Y => pre (row1 f Y) 0) y = 0 := by
              have e0 : (fun Y => pre (row1 f Y) 0) = fun _ => (0 : Int) := rfl
              have p0 : ∀ k, pre (fun _ => (0 : Int)) k = 0 := fun k => by
                induction k with
                | zero => rfl
                | succ k ih => show pre _ k + 0 = 0; omega
              rw [e0]
              unfold part
              rw [p0, p0]; rfl
            rw [z, cornS_y]
            omega
        · have s1 : decide (0 < x) = true := decide_eq_true hx1
          have s2 : decide ((0 : Int) < (x : Int)) = true := decide_eq_true (by omega)
          have hbX := lb_bd hx1 (by omega)
          have ex := and_go hx1 (by omega)
          have wx : wrap64 ((x : Int) - 1) = (x : Int) - 1 := wrap64_id (by omega) (by omega)
          obtain ⟨m2, rfl⟩ : ∃ m2, gk = m2 + 1 := ⟨gk - 1, by omega⟩
          have hdr := below_blk hbr hd
          have hp := place_bd hw2 hh2 (show x ≤ w by omega) (show y ≤ h by omega)
          rw [← HNE.out] at hp
          have c0 := (blk_cell (below_blk hbr hrow) (y * (w + 1) + x)).trans (HV.out x y hx1 (by omega) hy1 (by omega))
          obtain ⟨I, hI⟩ : ∃ I, y * (w + 1) + x = I := ⟨_, rfl⟩
          have hat := fun W' (hdd : W'.heap[b]? = some (.cells #[.int .i64 (w : Int), .int .i64 (h : Int), .slice (some ⟨A, 0, none⟩) N cap] 77 (0, 0))) => fen_at_ok b w h x y _ W' hdd hw2 hh2 (by omega) (by omega)
          rw [hI] at hat c0 hp
          have hIN : (I : Int) < (N : Int) := by omega
          have q0 := fun d os => cell_regrown c0 d os
          have HAT := Lib.hid hat
          have b1 := HCB.out x0 y0 hx hy
          have b2 := HCB.out x0 y hx (by omega)
          have b3 := HCB.out x0 (y - lb y) hx (by omega)
          have b4 := HCB.out x y (by omega) (by omega)
          have b5 := HCB.out x (y - lb y) (by omega) (by omega)
          have b6 := HCB.out (x - lb x) y (by omega) (by omega)
          have b7 := HCB.out (x - lb x) (y - lb y) (by omega) (by omega)
          have e1 := cornS_y f x0 y
          have e2 := cornS_y f x y
          have e3 := cornS_y f (x - lb x) y
          have e4 := fenS_x f x y
          have vS : IntKind.i64.wrap (cornS f x0 y0 - cornS f x0 y + (part (fun Y => pre (row1 f Y) x0) y - part (fun Y => pre (row1 f Y) x) y) + fenS f x y) = cornS f x0 y0 - cornS f x0 y + (part (fun Y => pre (row1 f Y) x0) y - part (fun Y => pre (row1 f Y) (x - lb x)) y) := by
            rw [IntWalk.i64_in _ (by omega)]
            omega
          have wS : wrap64 (cornS f x0 y0 - cornS f x0 y + (part (fun Y => pre (row1 f Y) x0) y - part (fun Y => pre (row1 f Y) x) y) + fenS f x y) = cornS f x0 y0 - cornS f x0 y + (part (fun Y => pre (row1 f Y) x0) y - part (fun Y => pre (row1 f Y) (x - lb x)) y) := by
            rw [wrap64_id (by omega) (by omega)]
            omega
          obtain ⟨R, hR⟩ : ∃ R, cornS f x0 y0 - cornS f x0 y + (part (fun Y => pre (row1 f Y) x0) y - part (fun Y => pre (row1 f Y) x) y) = R := ⟨_, rfl⟩
          obtain ⟨R2, hR2⟩ : ∃ R2, cornS f x0 y0 - cornS f x0 y + (part (fun Y => pre (row1 f Y) x0) y - part (fun Y => pre (row1 f Y) (x - lb x)) y) = R2 := ⟨_, rfl⟩
          obtain ⟨SV, hSV⟩ : ∃ SV, fenS f x y = SV := ⟨_, rfl⟩
          rw [hR, hR2, hSV] at wS vS
          rw [hSV] at q0
          rw [hR]
          have HR2 := Lib.hid hR2
          clear b1 b2 b3 b4 b5 b6 b7 e1 e2 e3 e4 hR hR2 hSV c0 hI hat
          have i_0 := cells_q hdr 0 rfl
          have i_1 := cells_q hdr 1 rfl
          have i_2 := cells_q hdr 2 rfl
          go_wp2_with fail
          refine wp_quiet (by kernel_rfl) (by kernel_rfl) ?_
          repeat (go_big_quiet_step ((first | (go_at_call 27; with_reducible exact Calls.quiet (HAT.out _ (below_blk (below_regrown _ _ _) hdr))))))
          refine wpQuiet_nil ?_
          intro w5 hb5
          clear i_0 i_1 i_2 q0 HAT hdr vS
          have hb6 := below_next hbr hb5
          go_wp2_with fail
          go_roundg m2
          case measure => omega
          case rel => exact ⟨x - lb x, ⟨by omega, by omega⟩, rfl, by first | rfl | (rw [wS]; rw [← HR2.out]) | (rw [← HR2.out]), hb6⟩
end Go.Proofs.Ytfnflgcalhiamaa
/- Contracts of package rect, on. -/
set_option linter.unusedVariables false
set_option linter.unusedSimpArgs false
namespace Go.Proofs.Ytfnflgcalhiamaa
open Go.RowKit
set_option maxHeartbeats 1000000 in
theorem area_ok (x0 y0 x1 y1 : Int) (w : World) (h0 : 0 ≤ x0) (h1 : x0 ≤ x1) (h2 : x1 < 1024) (h3 : 0 ≤ y0) (h4 : y0 ≤ y1) (h5 : y1 < 1024) :
    Calls Try.prog 50 #[.agg #[.int .i64 x0, .int .i64 y0, .int .i64 x1, .int .i64 y1]] w fun r w' => r = .returned (.int .i64 ((x1 - x0 + 1) * (y1 - y0 + 1))) ∧ Below w.heap.size w w' := by
  go_enter Try.func50, Try.ntmps50
  go_wp2_with fail
  refine (right_ok _ _ _ _ _ h0 h1 h2 h3 h4 h5).mono ?_
  rintro e w1 ⟨rfl, hb⟩
  have hB := below_next (below_alloc1 _ _) hb
  have c0 := below_blk hb (blk_new w _)
  clear hb
  go_wp2_with fail
  have k_0 := cells_q c0 0 rfl
  have k_1 := cells_q c0 1 rfl
  have k_2 := cells_q c0 2 rfl
  have k_3 := cells_q c0 3 rfl
  refine wp_quiet (by kernel_rfl) (by kernel_rfl) ?_
  repeat (go_big_quiet_step ((first | (go_at_call 55; exact Calls.quiet (width_any _ _ _ _ _ (by omega) (by omega) (by omega) (by omega))))))
  refine wpQuiet_nil ?_
  intro w2 hb2
  clear k_0 k_1 k_2 k_3 c0
  go_wp2_with fail
  go_ret
  have m := mul_bd (A := 1024) (B := 1024) (show 0 ≤ x1 - x0 + 1 by omega) (by omega) (show 0 ≤ y1 - y0 + 1 by omega) (by omega)
  exact ⟨ret_int (wrap64_id (by omega) (by omega)), below_next hB hb2⟩

set_option maxHeartbeats 1000000 in
theorem nth_ok (x0 y0 x1 y1 i : Int) (w : World) (h0 : 0 ≤ x0) (h1 : x0 ≤ x1) (h2 : x1 < 1024) (h3 : 0 ≤ y0) (h4 : y0 ≤ y1) (h5 : y1 < 1024) (hi : 0 ≤ i) (hi2 : i < (x1 - x0 + 1) * (y1 - y0 + 1)) :
    Calls Try.prog 29 #[.agg #[.int .i64 x0, .int .i64 y0, .int .i64 x1, .int .i64 y1], .int .i64 i] w fun r w' => r = .returned (.tuple #[.agg #[.int .i64 (x0 + i % (x1 - x0 + 1)), .int .i64 (y0 + i / (x1 - x0 + 1))], .bool true]) ∧ Below w.heap.size w w' := by
  have hd := div_bd hi (show 0 < x1 - x0 + 1 by omega) (by rw [Int.mul_comm]; exact hi2)
  have hm0 := Int.emod_nonneg i (show x1 - x0 + 1 ≠ 0 by omega)
  have hm1 := Int.emod_lt_of_pos i (show 0 < x1 - x0 + 1 by omega)
  obtain ⟨hd0, hd1⟩ := hd
  have m := mul_bd (A := 1024) (B := 1024) (show 0 ≤ x1 - x0 + 1 by omega) (by omega) (show 0 ≤ y1 - y0 + 1 by omega) (by omega)
  obtain ⟨m0, m1⟩ := m
  have hi3 : i ≤ 1048576 := by omega
  go_enter Try.func29, Try.ntmps29
  go_wp2_with fail
  refine (area_ok _ _ _ _ _ h0 h1 h2 h3 h4 h5).mono ?_
  rintro e w1 ⟨rfl, hb⟩
  have hB := below_next (below_alloc (below_alloc1 _ _) _) hb
  have c0 := below_blk hb (below_blk (below_alloc1 _ _) (blk_new w _))
  have c1 := below_blk hb (blk_new _ _)
  rw [alloc_size] at c1
  clear hb
  go_wp2_with fail
  refine (inside_yes _ _ _ hi hi2).mono ?_
  rintro e w' ⟨rfl, rfl⟩
  go_wp2_with fail
  have k_0 := cells_q c0 0 rfl
  have k_1 := cells_q c0 1 rfl
  have k_2 := cells_q c0 2 rfl
  have k_3 := cells_q c0 3 rfl
  refine wp_tail 15 (by kernel_rfl) (by kernel_rfl) ?_
  simp only [List.take_succ_cons, List.take_zero, List.drop_succ_cons, List.drop_zero]
  repeat (go_big_quiet_step ((first | (go_at_call 55; exact Calls.quiet (width_any _ _ _ _ _ (by omega) (by omega) (by omega) (by omega))))))
  refine wpQuiet_nil ?_
  intro w2 hb2
  have c2 := below_blk hb2 c1
  have hB2 := below_next hB hb2
  clear k_0 k_1 k_2 k_3 c0 c1 hb2 hB
  have k_0 := cells_w c2 0 rfl
  have k_1 := cells_w c2 1 rfl
  have z_0 := blk_frozen c2 0
  have z_1 := blk_frozen c2 1
  go_wp2_with fail
  refine bodyPost_ret (res_ct rfl rfl (blk_set (blk_set c2 0 _) 1 _) agg_Cell rfl) rfl ?_
  exact ⟨rfl, (hB2.setCell (by simp) _).setCell (by simp) _⟩

theorem floor_any (n : Int) (w : World) (h0 : 0 ≤ n) (h1 : n < 1048576) :
    Calls Try.prog 67 #[.int .i64 n] w fun r w' => r = .returned (.int .i64 (n / 16 * 16)) ∧ w = w' := by
  go_enter Try.func67, Try.ntmps67
  go_wp2
  go_ret
  exact ⟨ret_int (andnot15 n h0 h1), rfl⟩
end Go.Proofs.Ytfnflgcalhiamaa
/- Contracts of package slab: what a slab is in memory; its cells read. -/
set_option linter.unusedVariables false
set_option linter.unusedSimpArgs false
namespace Go.Proofs.Ytfnflgcalhiamaa
open Go.RowKit

/-- What a slab's cells are: one value for all, or a row of values; F: where these lie. -/
def LandAt (W : World) (F : Nat → Prop) (w h : Int) (f : Int → Int → Int) (c : Value) : Prop :=
  (∃ v : Int, c = .iface 128 (.int .i32 v) ∧ -2147483648 ≤ v ∧ v ≤ 2147483647 ∧ ∀ x y, 0 ≤ x → x < w → 0 ≤ y → y < h → f x y = v) ∨
  (∃ (k n cap : Nat) (cs : Array Value), c = .iface 138 (.slice (some ⟨k, 0, none⟩) n cap) ∧ F k ∧ k < W.heap.size ∧ (n : Int) = w * h ∧ n ≤ cap ∧ W.heap[k]? = some (.cells cs 21 (0, 0)) ∧
    ∀ x y, 0 ≤ x → x < w → 0 ≤ y → y < h → cs[(y * w + x).toNat]? = some (.int .i32 (f x y)))
/-- A slab at a block. -/
structure SlabAt (W : World) (b : Nat) (F : Nat → Prop) (w h : Int) (f : Int → Int → Int) : Prop where
  w1 : 1 ≤ w
  w2 : w ≤ 16
  h1 : 1 ≤ h
  h2 : h ≤ 16
  own : F b
  lt : ∀ k, F k → k < W.heap.size
  bd : ∀ x y, 0 ≤ x → x < w → 0 ≤ y → y < h → -2147483648 ≤ f x y ∧ f x y ≤ 2147483647
  blk : ∃ c, W.heap[b]? = some (.cells #[.int .i64 w, .int .i64 h, c] 132 (0, 0)) ∧ LandAt W (fun k => F k ∧ k ≠ b) w h f c

theorem LandAt.keep {W W2 : World} {F : Nat → Prop} {w h : Int} {f : Int → Int → Int} {c : Value} (H : LandAt W F w h f c) (hk : ∀ k, F k → W2.heap[k]? = W.heap[k]?) : LandAt W2 F w h f c := by
  rcases H with H | ⟨k, n, cap, cs, h1, h2, h2', h3, h4, h5, h6⟩
  · exact .inl H
  · exact .inr ⟨k, n, cap, cs, h1, h2, (Array.getElem?_eq_some_iff.1 ((hk k h2).trans h5)).1, h3, h4, (hk k h2).trans h5, h6⟩
theorem SlabAt.keep {W W2 : World} {b : Nat} {F : Nat → Prop} {w h : Int} {f : Int → Int → Int} (H : SlabAt W b F w h f) (hs : W.heap.size ≤ W2.heap.size) (hk : ∀ k, F k → W2.heap[k]? = W.heap[k]?) : SlabAt W2 b F w h f := by
  obtain ⟨c, hc, hl⟩ := H.blk
  exact ⟨H.w1, H.w2, H.h1, H.h2, H.own, fun k hk' => Nat.lt_of_lt_of_le (H.lt k hk') hs, H.bd, c, (hk b H.own).trans hc, hl.keep (fun k h => hk k h.1)⟩
theorem SlabAt.below {W W2 : World} {b : Nat} {F : Nat → Prop} {w h : Int} {f : Int → Int → Int} (H : SlabAt W b F w h f) (hb : Below W.heap.size W W2) : SlabAt W2 b F w h f :=
  H.keep hb.size (fun k hk => hb.block k (H.lt k hk))
theorem SlabAt.mod {W W2 : World} {b : Nat} {F S : Nat → Prop} {w h : Int} {f : Int → Int → Int} (H : SlabAt W b F w h f) (hb : Mod S W W2) (hn : ∀ k, F k → ¬ S k) : SlabAt W2 b F w h f :=
  H.keep hb.size (fun k hk => hb.block k (H.lt k hk) (hn k hk))

theorem slab_spot_any (x y : Int) (w : World) :
    Calls Try.prog 72 #[.agg #[.int .i64 x, .int .i64 y]] w fun e w' => e = .returned (.agg #[.int .i64 x, .int .i64 y, .int .i64 x, .int .i64 y]) ∧ Below w.heap.size w w' := by
  go_enter Try.func72, Try.ntmps72
  go_wp2
  refine bodyPost_ret (res_c rfl rfl (blk_new2 _ _ _) agg_Rect rfl) rfl ?_
  exact ⟨rfl, below_alloc (below_alloc1 _ _) _⟩

theorem slab_check_any (b : Nat) (w h x0 y0 x1 y1 : Int) (c : Value) (W : World) (hb : W.heap[b]? = some (.cells #[.int .i64 w, .int .i64 h, c] 132 (0, 0))) (w1 : 1 ≤ w) (w2 : w ≤ 16) (h1 : 1 ≤ h) (h2 : h ≤ 16) :
    Calls Try.prog 71 #[.pointer (some ⟨b, 0, none⟩), .agg #[.int .i64 x0, .int .i64 y0, .int .i64 x1, .int .i64 y1]] W fun e W' => e = .returned (.int .i64 (withinC x0 y0 x1 y1 w h)) ∧ Below W.heap.size W W' := by
  go_enter Try.func71, Try.ntmps71
  go_wp2_with fail
  have n0 := below_blk (below_alloc1 W (.cells #[.int .i64 x0, .int .i64 y0, .int .i64 x1, .int .i64 y1] 71)) hb
  have n1 := blk_new W (.cells #[.int .i64 x0, .int .i64 y0, .int .i64 x1, .int .i64 y1] 71)
  have k_0 := cells_q n0 0 rfl
  have k_1 := cells_q n0 1 rfl
  have j_0 := cells_q n1 0 rfl
  have j_1 := cells_q n1 1 rfl
  have j_2 := cells_q n1 2 rfl
  have j_3 := cells_q n1 3 rfl
  refine wp_quiet (by kernel_rfl) (by kernel_rfl) ?_
  repeat (go_big_quiet_step ((first | (go_at_call 43; exact Calls.quiet (within_any _ _ _ _ _ _ _ w1 (by omega) h1 (by omega))))))
  refine wpQuiet_nil ?_
  intro W2 hb2
  clear k_0 k_1 j_0 j_1 j_2 j_3 n0 n1
  go_wp2_with fail
  go_ret
  exact ⟨rfl, below_next (below_alloc1 _ _) hb2⟩

/-- The methods that lie behind a slab's cells. -/
theorem method_flat (v : Value) (w : World) : (method 269 128 v "hachure/slab.at").run Try.prog w = .ok (104, v) w := by kernel_rfl
theorem method_rough (v : Value) (w : World) : (method 269 138 v "hachure/slab.at").run Try.prog w = .ok (105, v) w := by kernel_rfl
theorem nil_flat (v : Value) (w : World) : (nilAhead 269 128 v "hachure/slab.at").run Try.prog w = .ok (some false) w := by kernel_rfl
theorem nil_rough (v : Value) (w : World) : (nilAhead 269 138 v "hachure/slab.at").run Try.prog w = .ok (some false) w := by kernel_rfl
attribute [go_sem] method_flat method_rough nil_flat nil_rough
end Go.Proofs.Ytfnflgcalhiamaa
/- slab.New, slices.Repeat, and what looks for another value. -/
set_option linter.unusedVariables false
set_option linter.unusedSimpArgs false
namespace Go.Proofs.Ytfnflgcalhiamaa
open Go.RowKit

theorem slab_may_yes (v : Int) (w : World) (h0 : -2147483648 ≤ v) (h1 : v ≤ 2147483647) :
    Calls Try.prog 69 #[.int .i64 v] w fun e w' => e = .returned (.bool true) ∧ w = w' := by
  have t1 : decide (-2147483648 ≤ v) = true := decide_eq_true h0
  have t2 : decide (v ≤ 2147483647) = true := decide_eq_true h1
  go_enter Try.func69, Try.ntmps69
  go_wp2
  go_ret
  exact ⟨rfl, rfl⟩
theorem slab_may_no (v : Int) (w : World) (h : v < -2147483648 ∨ 2147483647 < v) :
    Calls Try.prog 69 #[.int .i64 v] w fun e w' => e = .returned (.bool false) ∧ w = w' := by
  by_cases h0 : -2147483648 ≤ v
  · have t1 : decide (-2147483648 ≤ v) = true := decide_eq_true h0
    have t2 : decide (v ≤ 2147483647) = false := decide_eq_false (by omega)
    go_enter Try.func69, Try.ntmps69
    go_wp2
    go_ret
    exact ⟨rfl, rfl⟩
  · have t1 : decide (-2147483648 ≤ v) = false := decide_eq_false h0
    go_enter Try.func69, Try.ntmps69
    go_wp2
    go_ret
    exact ⟨rfl, rfl⟩
theorem tile_right_yes (x y : Int) (w : World) (h0 : 1 ≤ x) (h1 : x ≤ 16) (h2 : 1 ≤ y) (h3 : y ≤ 16) :
    Calls Try.prog 68 #[.int .i64 x, .int .i64 y] w fun e w' => e = .returned (.bool true) ∧ w = w' := by
  go_enter Try.func68, Try.ntmps68
  go_wp2
  go_ret
  exact ⟨rfl, rfl⟩

theorem wrap_i32 {v : Int} (h0 : -2147483648 ≤ v) (h1 : v ≤ 2147483647) : IntKind.i32.wrap v = v := by
  simp [IntKind.wrap, IntKind.bits, IntKind.signed]
  split <;> omega

set_option maxHeartbeats 1000000 in
theorem slab_New_ok (w h v : Int) (W : World) (w1 : 1 ≤ w) (w2 : w ≤ 16) (h1 : 1 ≤ h) (h2 : h ≤ 16) (v1 : -2147483648 ≤ v) (v2 : v ≤ 2147483647) :
    Calls Try.prog 45 #[.int .i64 w, .int .i64 h, .int .i64 v] W fun e W' => ∃ b, e = .returned (.tuple #[.pointer (some ⟨b, 0, none⟩), .int .i64 0]) ∧ W.heap.size ≤ b ∧ Below W.heap.size W W' ∧ SlabAt W' b (fun k => k = b) w h (fun _ _ => v) := by
  have hv := wrap_i32 v1 v2
  go_enter Try.func45, Try.ntmps45
  go_wp2_with (first | (go_at_call 68; refine (tile_right_yes _ _ _ w1 w2 h1 h2).mono ?_; rintro e w' ⟨rfl, rfl⟩) | (go_at_call 69; refine (slab_may_yes _ _ v1 v2).mono ?_; rintro e w' ⟨rfl, rfl⟩))
  go_ret2
  refine ⟨_, rfl, Nat.le_refl _, below_alloc1 _ _, w1, w2, h1, h2, rfl, fun k hk => by subst hk; simp, fun _ _ _ _ _ _ => ⟨v1, v2⟩, _, blk_new _ _, .inl ⟨v, rfl, v1, v2, fun _ _ _ _ _ _ => rfl⟩⟩

theorem and32 (m : Nat) (h : m < 4294967296) : bits .and .u64 (m : Int) 4294967295 = (m : Int) := by
  show IntKind.u64.wrap ((BitVec.ofInt 64 (m : Int) &&& (BitVec.ofInt 64 4294967295)).toNat : Int) = _
  rw [BitVec.toNat_and, BitVec.ofInt_natCast, BitVec.toNat_ofNat, Nat.mod_eq_of_lt (show m < 2 ^ 64 by omega), show (BitVec.ofInt 64 4294967295).toNat = 2 ^ 32 - 1 by decide, Nat.and_two_pow_sub_one_eq_mod, Nat.mod_eq_of_lt (by omega)]
  rw [IntKind.wrap_u64]
  omega
set_option maxHeartbeats 1000000 in
theorem mul_one (n : Nat) (w : World) (hn : n ≤ 256) :
    Calls Try.prog 81 #[.int .u64 1, .int .u64 (n : Int)] w fun e w' => e = .returned (.tuple #[.int .u64 0, .int .u64 (n : Int)]) ∧ w = w' := by
  go_enter Try.func81, Try.ntmps81
  have e1 : bits .and .u64 1 4294967295 = 1 := and32 1 (by omega)
  have e2 : bits .and .u64 (n : Int) 4294967295 = (n : Int) := and32 n (by omega)
  have e3 : (n : Int) / 4294967296 = 0 := by omega
  have e4 : IntKind.u64.wrap (n : Int) = n := by rw [IntKind.wrap_u64]; omega
  have e5 : bits .and .u64 0 4294967295 = 0 := and32 0 (by omega)
  have e6 : IntKind.u64.wrap 0 = 0 := by rw [IntKind.wrap_u64]; omega
  go_wp2
  go_ret2
  exact ⟨rfl, rfl⟩

theorem info_int32 : (Try.prog.info? 21).map (fun i => (i.zero, i.size, i.bytes)) = some (some (.int .i32 0), 1, 4) := by kernel_rfl
theorem size_int32 : (Try.prog.info? 21).map (·.size) = some 1 := by kernel_rfl

/-- The first m cells are v's, the rest are noughts. -/
def halfRow (v : Int) (m n : Nat) : List Value := List.replicate m (.int .i32 v) ++ List.replicate (n - m) (.int .i32 0)
theorem halfRow_splice (v : Int) (m j n : Nat) (h : m + j ≤ n) : splice (halfRow v m n) m (List.replicate j (.int .i32 v)) = halfRow v (m + j) n := by
  unfold splice halfRow
  rw [List.take_left' (by simp), List.length_replicate, List.drop_append, List.length_replicate, List.drop_of_length_le (by simp), List.nil_append, List.drop_replicate, ← List.replicate_append_replicate, List.append_assoc, show n - m - (m + j - m) = n - (m + j) by omega]
theorem halfRow_get (v : Int) (m n j : Nat) (hj : j < m) : (halfRow v m n)[j]? = some (.int .i32 v) := by
  unfold halfRow
  rw [List.getElem?_append_left (by simpa using hj)]
  simp [hj]

theorem src_one {w : World} {k : Nat} {u : Value} (h : w.cell? ⟨k, 0, none⟩ = some u) : ∀ j x, (List.replicate 1 u)[j]? = some x → w.cell? ((⟨k, 0, none⟩ : Addr).add j) = some x := by
  intro j x hx
  have hj : j = 0 := by
    have := (List.getElem?_eq_some_iff.1 hx).1
    simp at this
    exact this
  subst hj
  simp at hx
  subst hx
  exact h

set_option maxHeartbeats 1000000 in
set_option maxRecDepth 100000 in
theorem repeat_ok (k n : Nat) (v : Int) (W : World) (h1 : 1 ≤ n) (hn : n ≤ 256) (hk : W.cell? ⟨k, 0, none⟩ = some (.int .i32 v)) :
    Calls Try.prog 79 #[.slice (some ⟨k, 0, none⟩) 1 1, .int .i64 (n : Int)] W fun e W' => ∃ g, e = .returned (.slice (some ⟨g, 0, none⟩) n n) ∧ W.heap.size ≤ g ∧ Below W.heap.size W W' ∧
      W'.heap[g]? = some (.cells (Array.replicate n (.int .i32 v)) 21 (0, 0)) := by
  have hc0 : decide ((n : Int) < 0) = false := decide_eq_false (by omega)
  have e4 : IntKind.u64.wrap (n : Int) = n := by rw [IntKind.wrap_u64]; omega
  go_enter Try.func79, Try.ntmps79
  have hk2 : ∀ o, (W.alloc o).cell? ⟨k, 0, none⟩ = some (.int .i32 v) := fun o => below_cell (below_alloc1 W o) hk
  go_wp2_with (first | (go_at_call 81; refine (mul_one n _ hn).mono ?_; rintro e w' ⟨rfl, rfl⟩) | (at_make; refine make_one rfl (.tmp 29) (.tmp 29) 138 rfl 21 _ 4 Try.underlying138 info_int32 rfl n rfl rfl (by omega) (by omega) ?_) | (refine wpList_copy_splice rfl (.tmp 31) (.tmp 32) 138 138 rfl 21 Try.underlying138 size_int32 _ _ _ _ _ _ rfl rfl W.heap.size 0 (halfRow v 0 n) 21 (by simpa [halfRow] using blk_new W (.cells (Array.replicate n (.int .i32 0)) 21)) (List.replicate 1 (.int .i32 v)) (Nat.min_eq_left h1).symm (fun _ => ⟨rfl, _, rfl, src_one (hk2 _)⟩) (by simp [halfRow]; omega) (by intro u hu; simp at hu; subst hu; rfl) W.heap.size W (below_alloc1 _ _) (Nat.le_refl _) ?_))
  intro w1 hg hb1
  replace hg : Hid (w1.heap[W.heap.size]? = some (.cells (halfRow v (0 + 1) n).toArray 21 (0, 0))) := by rw [← halfRow_splice v 0 1 n (by omega)]; exact hg
  go_wp2_with fail
  have hn' := Lib.hid hn
  go_loopg [8] n (fun q v8 wr => ∃ m : Nat, 1 ≤ m ∧ m ≤ n ∧ n - m ≤ q ∧ v8 = .int .i64 (m : Int) ∧ Hid (wr.heap[W.heap.size]? = some (.cells (halfRow v m n).toArray 21 (0, 0))) ∧ Below W.heap.size W wr)
  case atStart => exact ⟨1, Nat.le_refl _, h1, Nat.sub_le _ _, rfl, hg, hb1⟩
  case round =>
    clear hg hb1
    obtain ⟨m, hm1, hm2, hq, rfl, hg, hb1⟩ := hrel
    by_cases hlt : m < n
    · have ht : decide ((m : Int) < (n : Int)) = true := decide_eq_true (by omega)
      go_wp2_with fail
      obtain ⟨q2, hq2⟩ : ∃ q, q = Nat.min m (n - m) := ⟨_, rfl⟩
      have hq3 : q2 ≤ m := by rw [hq2]; exact Nat.min_le_left _ _
      have hq4 : q2 ≤ n - m := by rw [hq2]; exact Nat.min_le_right _ _
      have hq5 : 1 ≤ q2 := by rw [hq2]; exact Nat.le_min.2 ⟨hm1, by omega⟩
      have Hq := Lib.hid hq2
      clear hq2
      have hsrc : ∀ j x, (List.replicate q2 (Value.int .i32 v))[j]? = some x → wr.drew.cell? ((⟨W.heap.size, 0, none⟩ : Addr).add j) = some x := by
        intro j x hx
        have hj := (List.getElem?_eq_some_iff.1 hx).1
        rw [List.length_replicate] at hj
        rw [List.getElem?_replicate, if_pos hj] at hx
        rw [add_plain]
        have h1 : wr.drew.cell? ⟨W.heap.size, j, none⟩ = wr.cell? ⟨W.heap.size, j, none⟩ := rfl
        rw [h1, blk_cell hg.out j, List.getElem?_toArray, halfRow_get v m n j (by omega), ← hx]
      have hsrcH := Lib.hid hsrc
      clear hsrc
      have hwq : IntKind.i64.wrap ((m : Int) + (q2 : Int)) = (m : Int) + (q2 : Int) := IntWalk.i64_in _ (by omega)
      have hne : ¬ n = m := by omega
      have hgd : Hid (wr.drew.heap[W.heap.size]? = some (.cells (halfRow v m n).toArray 21 (0, 0))) := hg
      have hbd : Below W.heap.size W wr.drew := hb1.drew
      go_region_law (refine want_step ?hw ?_; (case hw => exact rfl); simp only [Act.put, List.getElem_toArray, List.getElem_cons_zero, List.getElem_cons_succ, List.setIfInBounds_toArray, List.set_cons_zero, List.set_cons_succ]; refine wp_copy ?g1 (.tmp 41) (.tmp 44) 138 138 ?g2 21 Try.underlying138 size_int32 (some ⟨W.heap.size, m, none⟩) (some ⟨W.heap.size, 0, none⟩) (n - m) (n - m) m n ?g3 ?g4 W.heap.size m (halfRow v m n) 21 hgd.out (List.replicate q2 (.int .i32 v)) ?g5 ?g6 ?g7 ?g8 W.heap.size W hbd (Nat.le_refl _) ?g9; (case g1 => rfl); (case g2 => rfl); (case g3 => exact rfl); (case g4 => exact rfl); (case g5 => rw [List.length_replicate]; exact Hq.out); (case g6 => exact fun _ => ⟨rfl, _, rfl, hsrcH.out⟩); (case g7 => simp [halfRow]; omega); (case g8 => intro u hu; simp at hu; rw [hu.2]; rfl); intro w4 hg4 hb4)
      replace hg4 : Hid (w4.heap[W.heap.size]? = some (.cells (halfRow v (m + q2) n).toArray 21 (0, 0))) := by rw [← halfRow_splice v m q2 n (by omega)]; exact hg4
      go_wp2_with fail
      go_roundg (gk - 1)
      case measure => omega
      case rel => exact ⟨m + q2, by omega, by omega, by omega, by first | rfl | exact congrArg (Value.int .i64) (by omega), hg4, hb4⟩
    · have ht : decide ((m : Int) < (n : Int)) = false := decide_eq_false (by omega)
      go_wp2_with fail
      go_ret
      have e : m = n := by omega
      subst e
      exact ⟨_, rfl, Nat.le_refl _, hb1, by simpa [halfRow] using hg.out⟩
end Go.Proofs.Ytfnflgcalhiamaa
/- slab.rough. -/
set_option linter.unusedVariables false
set_option linter.unusedSimpArgs false
namespace Go.Proofs.Ytfnflgcalhiamaa
open Go.RowKit

theorem assert_ff (v : Int) (w : World) : (Instr.typeAssert (.iface 128 (.int .i32 v)) 130 128 true).run Try.prog w = .ok (.tuple #[.int .i32 v, .bool true]) w := by kernel_rfl
theorem assert_rf (a : Option Addr) (n c : Nat) (w : World) : (Instr.typeAssert (.iface 138 (.slice a n c)) 130 128 true).run Try.prog w = .ok (.tuple #[.int .i32 0, .bool false]) w := by kernel_rfl
theorem assert_rr (a : Option Addr) (n c : Nat) (w : World) : (Instr.typeAssert (.iface 138 (.slice a n c)) 130 138 true).run Try.prog w = .ok (.tuple #[.slice a n c, .bool true]) w := by kernel_rfl
theorem assert_fr (v : Int) (w : World) : (Instr.typeAssert (.iface 128 (.int .i32 v)) 130 138 true).run Try.prog w = .ok (.tuple #[.slice none 0 0, .bool false]) w := by kernel_rfl
theorem assert_f (v : Int) (w : World) : (Instr.typeAssert (.iface 128 (.int .i32 v)) 130 128 false).run Try.prog w = .ok (.int .i32 v) w := by kernel_rfl
attribute [go_sem] assert_ff assert_rf assert_rr assert_fr assert_f

/-- A slab whose cells are a row of values at block k. -/
structure RoughAt (W : World) (b k : Nat) (F : Nat → Prop) (w h : Int) (f : Int → Int → Int) (n cap : Nat) (cs : Array Value) : Prop where
  n_eq : (n : Int) = w * h
  cap_le : n ≤ cap
  own : F b
  ownk : F k
  ne : k ≠ b
  lt : ∀ i, F i → i < W.heap.size
  slab : W.heap[b]? = some (.cells #[.int .i64 w, .int .i64 h, .iface 138 (.slice (some ⟨k, 0, none⟩) n cap)] 132 (0, 0))
  row : W.heap[k]? = some (.cells cs 21 (0, 0))
  size : n ≤ cs.size
  cell : ∀ x y, 0 ≤ x → x < w → 0 ≤ y → y < h → cs[(y * w + x).toNat]? = some (.int .i32 (f x y))

set_option maxHeartbeats 1000000 in
set_option maxRecDepth 100000 in
theorem slab_rough_ok (b : Nat) (F : Nat → Prop) (w h : Int) (f : Int → Int → Int) (W : World) (H : SlabAt W b F w h f) :
    Calls Try.prog 76 #[.pointer (some ⟨b, 0, none⟩)] W fun e W' => ∃ k n cap cs, e = .returned (.slice (some ⟨k, 0, none⟩) n cap) ∧ Mod F W W' ∧ (F k ∨ W.heap.size ≤ k) ∧ RoughAt W' b k (fun i => F i ∨ i = k) w h f n cap cs := by
  obtain ⟨c, hb, hl⟩ := H.blk
  have w1 := H.w1
  have w2 := H.w2
  have h1 := H.h1
  have h2 := H.h2
  rcases hl with ⟨v, rfl, hv1, hv2, hv⟩ | ⟨k, n, cap, cs, rfl, hF, hlt, hn, hcap, hk, hcs⟩
  ·
    have k_0 := cells_w hb 0 rfl
    have k_1 := cells_w hb 1 rfl
    have k_2 := cells_w hb 2 rfl
    go_enter Try.func76, Try.ntmps76
    go_wp2_with fail
    have hm := mul_bd (A := 16) (B := 16) (show 0 ≤ w by omega) w2 (show 0 ≤ h by omega) h2
    have hm3 : 1 ≤ w * h := by have := Int.mul_le_mul_of_nonneg_right w1 (show 0 ≤ h by omega); omega
    obtain ⟨n, hn⟩ : ∃ n : Nat, (n : Int) = w * h := ⟨(w * h).toNat, by omega⟩
    have hw := wrap64_id (x := w * h) (by omega) (by omega)
    rw [← hn] at hw
    replace hw : IntKind.i64.wrap (w * h) = (n : Int) := by rw [← hn]; exact IntWalk.i64_in _ (by omega)
    have hn1 : 1 ≤ n := by omega
    have hn2 : n ≤ 256 := by omega
    have Hn := Lib.hid hn
    clear hn
    go_region_held3 (fun w' => w'.cell? ⟨b, 0, none⟩ = some (.int .i64 w) ∧ w'.cell? ⟨b, 1, none⟩ = some (.int .i64 h) ∧ w'.cell? ⟨b, 2, none⟩ = some (.iface 128 (.int .i32 v)))
      (first | go_keep | (go_split_ands; exact ⟨below_cell hb3 (by assumption), below_cell hb3 (by assumption), below_cell hb3 (by assumption)⟩))
      ((go_at_call 79; refine (repeat_ok W.heap.size n v _ hn1 hn2 ?hc).mono ?_; (case hc => exact cells_w (W := W.alloc (.cells #[.int .i32 v] 21)) (blk_new W (.cells #[.int .i32 v] 21)) 0 rfl); rintro e w3 ⟨g, rfl, hg, hb3, hrow⟩))
    have hB3 := below_next ((below_alloc1 W (.cells #[.int .i32 v] 21)).drew) hb3
    have n3 := below_blk hB3 hb
    have hgs : W.heap.size < g := by
      have h5 : (W.alloc (.cells #[.int .i32 v] 21)).drew.heap.size = W.heap.size + 1 := alloc_size W _
      omega
    have hbl := H.lt b H.own
    clear k_0 k_1 k_2 hb3 hg
    go_split_ands
    have z2 := blk_frozen n3 2
    go_wp2_with fail
    go_ret
    refine ⟨g, n, n, _, rfl, (Mod.of_below hB3).setCell (.inl H.own) _, .inr (by omega), Hn.out, Nat.le_refl _, .inl H.own, .inr rfl, by omega, ?_, blk_set n3 2 _, blk_set_ne hrow _ (by simp; omega) _, by simp, ?_⟩
    · intro i hi
      have hs3 := hB3.size
      rcases hi with hi | rfl
      · have := H.lt i hi
        simp [World.setCell]
        omega
      · have := blk_lt hrow
        simpa [World.setCell] using this
    · intro x y hx hx2 hy hy2
      have hi := idx_lt hx hx2 hy hy2
      have hN := Hn.out
      rw [Array.getElem?_replicate, if_pos (by omega), hv x y hx hx2 hy hy2]
  ·
    have k_0 := cells_w hb 0 rfl
    have k_1 := cells_w hb 1 rfl
    have k_2 := cells_w hb 2 rfl
    go_enter Try.func76, Try.ntmps76
    go_wp2_with fail
    go_ret
    refine ⟨k, n, cap, cs, rfl, Mod.refl _ _, .inl hF.1, hn, hcap, .inl H.own, .inl hF.1, hF.2, ?_, hb, hk, ?_, hcs⟩
    · intro i hi
      rcases hi with hi | rfl
      · exact H.lt i hi
      · exact hlt
    · have hi := idx_lt (x := w - 1) (y := h - 1) (w := w) (h := h) (by omega) (by omega) (by omega) (by omega)
      have hl := (Array.getElem?_eq_some_iff.1 (hcs (w - 1) (h - 1) (by omega) (by omega) (by omega) (by omega))).1
      have e : (h - 1) * w + (w - 1) = w * h - 1 := by rw [Int.sub_mul, Int.mul_comm w h]; omega
      omega
end Go.Proofs.Ytfnflgcalhiamaa

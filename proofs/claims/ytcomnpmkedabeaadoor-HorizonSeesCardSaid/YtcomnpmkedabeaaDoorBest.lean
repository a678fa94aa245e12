/- The first of the greatest slopes; slope.Steepest. -/
import Derived.Test.YtcomnpmkedabeaaDoorSlopeCmp
import Derived.Deep.LoopGhost
set_option linter.unusedVariables false
set_option linter.unusedSimpArgs false
namespace Go.Proofs.YtcomnpmkedabeaaDoor
open Go.RowKit

/-- Of the cells 1 to j: which is the first of the steepest; 0: there is none. -/
def best (up : Nat → Int) : Nat → Nat
  | 0 => 0
  | j + 1 => if best up j = 0 ∨ 0 < cmpS (up (j + 1)) ((j + 1 : Nat) : Int) (up (best up j)) ((best up j : Nat) : Int) then j + 1 else best up j
theorem best_succ (up : Nat → Int) (j : Nat) : best up (j + 1) = if best up j = 0 ∨ 0 < cmpS (up (j + 1)) ((j + 1 : Nat) : Int) (up (best up j)) ((best up j : Nat) : Int) then j + 1 else best up j := rfl
theorem best_le (up : Nat → Int) : ∀ j, best up j ≤ j
  | 0 => Nat.le_refl _
  | j + 1 => by
    have := best_le up j
    rw [best_succ]
    split <;> omega
theorem best_pos (up : Nat → Int) : ∀ j, 1 ≤ j → 1 ≤ best up j
  | 0, h => by omega
  | j + 1, _ => by
    rw [best_succ]
    split
    · omega
    · rename_i h
      omega
theorem best_zero (up : Nat → Int) (j : Nat) : best up j = 0 ↔ j = 0 := by
  constructor
  · intro h
    rcases Nat.eq_zero_or_pos j with h0 | h0
    · exact h0
    · have := best_pos up j h0; omega
  · intro h; subst h; rfl
theorem best_step (up : Nat → Int) (q : Nat) : best up (q + 1) - 1 = if 0 < cmpS (up (q + 1)) ((q : Int) + 1) (up (best up q - 1 + 1)) (((best up q - 1 : Nat) : Int) + 1) then q else best up q - 1 := by
  rw [best_succ]
  rcases Nat.eq_zero_or_pos q with h0 | h0
  · subst h0
    have e : best up 0 = 0 := rfl
    rw [e, if_pos (.inl rfl)]
    split <;> rfl
  · have hp := best_pos up q h0
    have e1 : best up q - 1 + 1 = best up q := by omega
    have e2 : ((best up q - 1 : Nat) : Int) + 1 = ((best up q : Nat) : Int) := by omega
    rw [e1, e2, show ((q : Int) + 1) = ((q + 1 : Nat) : Int) by push_cast; rfl]
    by_cases hc : 0 < cmpS (up (q + 1)) ((q + 1 : Nat) : Int) (up (best up q)) ((best up q : Nat) : Int)
    · rw [if_pos (.inr hc), if_pos hc]; omega
    · rw [if_neg (fun z => z.elim (fun z => by omega) hc), if_neg hc]
/-- The first of the steepest is no less than any, and more than those ahead. -/
theorem best_max (up : Nat → Int) : ∀ j i, 1 ≤ i → i ≤ j → cmpS (up i) (i : Int) (up (best up j)) ((best up j : Nat) : Int) ≤ 0
  | 0, i, h1, h2 => by omega
  | j + 1, i, h1, h2 => by
    have self : ∀ k : Nat, cmpS (up k) (k : Int) (up k) (k : Int) ≤ 0 := fun k => by
      have : ¬ 0 < cmpS (up k) (k : Int) (up k) (k : Int) := by rw [cmpS_pos]; omega
      omega
    have hb : best up (j + 1) = j + 1 ∧ (best up j = 0 ∨ 0 < cmpS (up (j + 1)) ((j + 1 : Nat) : Int) (up (best up j)) ((best up j : Nat) : Int)) ∨ best up (j + 1) = best up j ∧ ¬ (best up j = 0 ∨ 0 < cmpS (up (j + 1)) ((j + 1 : Nat) : Int) (up (best up j)) ((best up j : Nat) : Int)) := by
      rw [best_succ]
      split
      · rename_i h; exact .inl ⟨rfl, h⟩
      · rename_i h; exact .inr ⟨rfl, h⟩
    rcases Nat.lt_or_ge i (j + 1) with hi | hi
    · rcases hb with ⟨e, h⟩ | ⟨e, h⟩
      · rw [e]
        have hj := best_pos up j (by omega)
        have h' := h.resolve_left (by omega)
        have ih := best_max up j i h1 (by omega)
        have hl := best_le up j
        generalize best up j = b at *
        have n1 : ¬ 0 < cmpS (up i) (i : Int) (up b) (b : Int) := by omega
        rw [cmpS_pos] at n1 h'
        have n2 : ¬ 0 < cmpS (up i) (i : Int) (up (j + 1)) ((j + 1 : Nat) : Int) := by
          rw [cmpS_pos]
          intro hc
          generalize up i = A at *
          generalize up b = B at *
          generalize up (j + 1) = C at *
          obtain ⟨I, hI⟩ : ∃ I : Int, (i : Int) = I := ⟨_, rfl⟩
          obtain ⟨J, hJ⟩ : ∃ J : Int, ((j + 1 : Nat) : Int) = J := ⟨_, rfl⟩
          obtain ⟨K, hK⟩ : ∃ K : Int, (b : Int) = K := ⟨_, rfl⟩
          rw [hI, hJ] at hc
          rw [hJ, hK] at h'
          rw [hI, hK] at n1
          have pI : 0 < I := by omega
          have pJ : 0 < J := by omega
          have pK : 0 < K := by omega
          -- C I < A J, B J < C K, A K ≤ B I
          have m1 := Int.mul_lt_mul_of_pos_right hc pK
          have m2 := Int.mul_lt_mul_of_pos_right h' pI
          have m3 := Int.mul_le_mul_of_nonneg_right (show A * K ≤ B * I by omega) (show 0 ≤ J by omega)
          have e1 : C * I * K = C * K * I := by grind
          have e2 : A * J * K = A * K * J := by grind
          have e3 : B * J * I = B * I * J := by grind
          omega
        omega
      · rw [e]
        exact best_max up j i h1 (by omega)
    · have : i = j + 1 := by omega
      subst this
      rcases hb with ⟨e, h⟩ | ⟨e, h⟩
      · rw [e]; exact self _
      · rw [e]
        have : ¬ 0 < cmpS (up (j + 1)) ((j + 1 : Nat) : Int) (up (best up j)) ((best up j : Nat) : Int) := fun z => h (.inr z)
        omega

/-- A list of slopes in memory. -/
def SlopesAt (W : World) (k n : Nat) (up : Nat → Int) : Prop := ∀ q, q < n → W.cell? ⟨k, q * 2, none⟩ = some (.int .i64 (up (q + 1))) ∧ W.cell? ⟨k, q * 2 + 1, none⟩ = some (.int .i64 ((q : Int) + 1))
theorem SlopesAt.below {W W' : World} {k n : Nat} {up : Nat → Int} (H : SlopesAt W k n up) (hb : Below W.heap.size W W') : SlopesAt W' k n up := fun q hq => ⟨below_cell hb (H q hq).1, below_cell hb (H q hq).2⟩

theorem steepest_none (cap : Nat) (o : Option Addr) (W : World) : Calls Tryd.prog 21 #[.slice o 0 cap] W fun e W' => e = .returned (.tuple #[.int .i64 0, .int .i64 15]) ∧ Below W.heap.size W W' := by
  go_enter Tryd.func21, Tryd.ntmps21
  go_wp2_with fail
  go_ret2
  exact ⟨rfl, Below.refl _ _⟩

set_option maxHeartbeats 4000000 in
set_option maxRecDepth 100000 in
theorem steepest_ok (k n cap : Nat) (up : Nat → Int) (W : World) (n1 : 1 ≤ n) (n2 : n ≤ 1024) (hu : ∀ i, 1 ≤ i → i ≤ n → -1099511627776 ≤ up i ∧ up i ≤ 1099511627776) (hs : SlopesAt W k n up) :
    Calls Tryd.prog 21 #[.slice (some ⟨k, 0, none⟩) n cap] W fun e W' => e = .returned (.tuple #[.int .i64 ((best up n - 1 : Nat) : Int), .int .i64 0]) ∧ Below W.heap.size W W' := by
  have HU := Lib.hid hu
  have HS := Lib.hid hs
  clear hu hs
  have n0 : ((n : Int) == 0) = false := by simp; omega
  go_enter Tryd.func21, Tryd.ntmps21
  go_wp2_with fail
  go_loopg [4, 14] n (fun q v4 v14 wr => ∃ j : Nat, Hid (j + q = n) ∧ v4 = .int .i64 ((best up j - 1 : Nat) : Int) ∧ v14 = .int .i64 (j : Int) ∧ Below W.heap.size W wr)
  case atStart => exact ⟨0, Nat.zero_add _, rfl, rfl, Below.refl _ _⟩
  case round =>
    obtain ⟨j, hj, rfl, rfl, hbr⟩ := hrel
    cases gk with
    | zero =>
      have ej : j = n := hj.out
      subst ej
      have ht : decide (j < j) = false := decide_eq_false (by omega)
      have ht2 : decide ((j : Int) < (j : Int)) = false := decide_eq_false (by omega)
      go_wp2_with fail
      go_ret2
      exact ⟨rfl, hbr⟩
    | succ m =>
      have hlt : j < n := by have := hj.out; omega
      have ht : decide (j < n) = true := decide_eq_true hlt
      have ht2 : decide ((j : Int) < (n : Int)) = true := decide_eq_true (by omega)
      have hji : (j : Int) < (n : Int) := by omega
      have hbl := best_le up j
      have hstep := best_step up j
      obtain ⟨b, hb⟩ : ∃ b, best up j - 1 = b := ⟨_, rfl⟩
      rw [hb] at hstep ⊢
      have hbn : b < n := by omega
      have hbn2 : (b : Int) < (n : Int) := by omega
      have hc1 := (HS.out.below hbr) j hlt
      have HST := Lib.hid hstep
      clear hstep hb hbl
      obtain ⟨hc1, hc2⟩ := hc1
      go_wp2_with fail
      have nS := blk_new wr (.cells #[.int .i64 (up (j + 1)), .int .i64 ((j : Int) + 1)] 34)
      have hB := below_alloc1 wr (.cells #[.int .i64 (up (j + 1)), .int .i64 ((j : Int) + 1)] 34)
      have hB2 := below_next hbr hB
      obtain ⟨w2, hw2⟩ : ∃ w2, wr.alloc (.cells #[.int .i64 (up (j + 1)), .int .i64 ((j : Int) + 1)] 34) = w2 := ⟨_, rfl⟩
      rw [hw2] at nS hB hB2 ⊢
      clear hw2 hB
      obtain ⟨d1, d2⟩ := (HS.out.below hB2) b hbn
      have e1 := fun d os => cell_regrown d1 d os
      have e2 := fun d os => cell_regrown d2 d os
      have u1 := HU.out (j + 1) (by omega) (by omega)
      have u2 := HU.out (b + 1) (by omega) (by omega)
      obtain ⟨u1, u1'⟩ := u1
      obtain ⟨u2, u2'⟩ := u2
      have o1 : (1 : Int) ≤ (j : Int) + 1 := by omega
      have o2 : (j : Int) + 1 ≤ 1048576 := by omega
      have o3 : (1 : Int) ≤ (b : Int) + 1 := by omega
      have o4 : (b : Int) + 1 ≤ 1048576 := by omega
      have i_0 := cells_q nS 0 rfl
      have i_1 := cells_q nS 1 rfl
      refine wp_quiet (by kernel_rfl) (by kernel_rfl) ?_
      repeat (go_big_quiet_step ((first | (go_at_call 36; exact Calls.quiet (slope_cmp_ok (up (j + 1)) ((j : Int) + 1) (up (b + 1)) ((b : Int) + 1) _ o1 o2 o3 o4 u1 u1' u2 u2')))))
      refine wpQuiet_nil ?_
      intro w3 hb3
      have hB3 := below_next hB2 hb3
      clear hc1 hc2 d1 d2 e1 e2 i_0 i_1 hb3 nS o1 o2 o3 o4 u1 u1' u2 u2'
      by_cases hm : 0 < cmpS (up (j + 1)) ((j : Int) + 1) (up (b + 1)) ((b : Int) + 1)
      · have tm := decide_eq_true hm
        have HE := HST.out
        rw [if_pos hm] at HE
        have HE2 := Lib.hid HE
        clear HE hm
        go_wp2_with fail
        go_roundg m
        case measure => omega
        case rel => exact ⟨j + 1, by have := hj.out; exact (show j + 1 + m = n by omega), by rw [HE2.out], congrArg (Value.int .i64) (by push_cast; omega), hB3⟩
      · have tm := decide_eq_false hm
        have HE := HST.out
        rw [if_neg hm] at HE
        have HE2 := Lib.hid HE
        clear HE hm
        go_wp2_with fail
        go_roundg m
        case measure => omega
        case rel => exact ⟨j + 1, by have := hj.out; exact (show j + 1 + m = n by omega), by rw [HE2.out], congrArg (Value.int .i64) (by push_cast; omega), hB3⟩
end Go.Proofs.YtcomnpmkedabeaaDoor

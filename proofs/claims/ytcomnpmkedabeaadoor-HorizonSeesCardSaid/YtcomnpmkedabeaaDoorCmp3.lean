/- cmp.Compare of ints, int64s, uint64s; cmp.Or of two; math/bits.Mul64. -/
import Derived.Test.YtcomnpmkedabeaaDoorFloor
import Derived.Test.YtcomnpmkedabeaaDoorTail
import Derived.Lib.Mul64
import Derived.Laws.Bits64b
import Derived.Deep.LoopGhost
set_option linter.unusedVariables false
set_option linter.unusedSimpArgs false
namespace Go.Proofs.YtcomnpmkedabeaaDoor
open Go.RowKit

/-- -1, 0 or 1. -/
def cmpI (x y : Int) : Int := if x < y then -1 else if y < x then 1 else 0
theorem cmpI_sub (x y : Int) : cmpI x y = sgn (x - y) := by unfold cmpI sgn; split <;> split <;> (try split) <;> (try split) <;> omega
theorem isNaN_int_ok (n : Int) (W : World) : Calls Tryd.prog 76 #[.int .i64 n] W fun e W' => e = .returned (.bool false) ∧ W = W' := by
  go_enter Tryd.func76, Tryd.ntmps76
  go_wp2_with fail
  go_ret
  first | exact ⟨rfl, rfl⟩ | exact ⟨by simp, rfl⟩
theorem isNaN_int64_ok (n : Int) (W : World) : Calls Tryd.prog 83 #[.int .i64 n] W fun e W' => e = .returned (.bool false) ∧ W = W' := by
  go_enter Tryd.func83, Tryd.ntmps83
  go_wp2_with fail
  go_ret
  first | exact ⟨rfl, rfl⟩ | exact ⟨by simp, rfl⟩
theorem isNaN_uint64_ok (n : Int) (W : World) : Calls Tryd.prog 84 #[.int .u64 n] W fun e W' => e = .returned (.bool false) ∧ W = W' := by
  go_enter Tryd.func84, Tryd.ntmps84
  go_wp2_with fail
  go_ret
  first | exact ⟨rfl, rfl⟩ | exact ⟨by simp, rfl⟩
set_option maxHeartbeats 1000000 in
theorem cmp_int_ok (x y : Int) (W : World) : Calls Tryd.prog 61 #[.int .i64 x, .int .i64 y] W fun e W' => e = .returned (.int .i64 (cmpI x y)) ∧ W = W' := by
  by_cases h1 : x < y
  · have t1 := decide_eq_true h1
    have hc : cmpI x y = -1 := by unfold cmpI; rw [if_pos h1]
    rw [hc]
    clear hc
    go_enter Tryd.func61, Tryd.ntmps61
    go_wp2_with (go_at_call 76; refine (isNaN_int_ok _ _).mono ?_; rintro e w' ⟨rfl, rfl⟩)
    go_ret
    exact ⟨rfl, rfl⟩
  have t1 := decide_eq_false h1
  by_cases h2 : y < x
  · have t2 := decide_eq_true h2
    have hc : cmpI x y = 1 := by unfold cmpI; rw [if_neg h1, if_pos h2]
    rw [hc]
    clear hc
    go_enter Tryd.func61, Tryd.ntmps61
    go_wp2_with (go_at_call 76; refine (isNaN_int_ok _ _).mono ?_; rintro e w' ⟨rfl, rfl⟩)
    go_ret
    exact ⟨rfl, rfl⟩
  have t2 := decide_eq_false h2
  have hc : cmpI x y = 0 := by unfold cmpI; rw [if_neg h1, if_neg h2]
  rw [hc]
  clear hc
  go_enter Tryd.func61, Tryd.ntmps61
  go_wp2_with (go_at_call 76; refine (isNaN_int_ok _ _).mono ?_; rintro e w' ⟨rfl, rfl⟩)
  go_ret
  exact ⟨rfl, rfl⟩
set_option maxHeartbeats 1000000 in
theorem cmp_int64_ok (x y : Int) (W : World) : Calls Tryd.prog 77 #[.int .i64 x, .int .i64 y] W fun e W' => e = .returned (.int .i64 (cmpI x y)) ∧ W = W' := by
  by_cases h1 : x < y
  · have t1 := decide_eq_true h1
    have hc : cmpI x y = -1 := by unfold cmpI; rw [if_pos h1]
    rw [hc]
    clear hc
    go_enter Tryd.func77, Tryd.ntmps77
    go_wp2_with (go_at_call 83; refine (isNaN_int64_ok _ _).mono ?_; rintro e w' ⟨rfl, rfl⟩)
    go_ret
    exact ⟨rfl, rfl⟩
  have t1 := decide_eq_false h1
  by_cases h2 : y < x
  · have t2 := decide_eq_true h2
    have hc : cmpI x y = 1 := by unfold cmpI; rw [if_neg h1, if_pos h2]
    rw [hc]
    clear hc
    go_enter Tryd.func77, Tryd.ntmps77
    go_wp2_with (go_at_call 83; refine (isNaN_int64_ok _ _).mono ?_; rintro e w' ⟨rfl, rfl⟩)
    go_ret
    exact ⟨rfl, rfl⟩
  have t2 := decide_eq_false h2
  have hc : cmpI x y = 0 := by unfold cmpI; rw [if_neg h1, if_neg h2]
  rw [hc]
  clear hc
  go_enter Tryd.func77, Tryd.ntmps77
  go_wp2_with (go_at_call 83; refine (isNaN_int64_ok _ _).mono ?_; rintro e w' ⟨rfl, rfl⟩)
  go_ret
  exact ⟨rfl, rfl⟩
set_option maxHeartbeats 1000000 in
theorem cmp_uint64_ok (x y : Int) (W : World) : Calls Tryd.prog 79 #[.int .u64 x, .int .u64 y] W fun e W' => e = .returned (.int .i64 (cmpI x y)) ∧ W = W' := by
  by_cases h1 : x < y
  · have t1 := decide_eq_true h1
    have hc : cmpI x y = -1 := by unfold cmpI; rw [if_pos h1]
    rw [hc]
    clear hc
    go_enter Tryd.func79, Tryd.ntmps79
    go_wp2_with (go_at_call 84; refine (isNaN_uint64_ok _ _).mono ?_; rintro e w' ⟨rfl, rfl⟩)
    go_ret
    exact ⟨rfl, rfl⟩
  have t1 := decide_eq_false h1
  by_cases h2 : y < x
  · have t2 := decide_eq_true h2
    have hc : cmpI x y = 1 := by unfold cmpI; rw [if_neg h1, if_pos h2]
    rw [hc]
    clear hc
    go_enter Tryd.func79, Tryd.ntmps79
    go_wp2_with (go_at_call 84; refine (isNaN_uint64_ok _ _).mono ?_; rintro e w' ⟨rfl, rfl⟩)
    go_ret
    exact ⟨rfl, rfl⟩
  have t2 := decide_eq_false h2
  have hc : cmpI x y = 0 := by unfold cmpI; rw [if_neg h1, if_neg h2]
  rw [hc]
  clear hc
  go_enter Tryd.func79, Tryd.ntmps79
  go_wp2_with (go_at_call 84; refine (isNaN_uint64_ok _ _).mono ?_; rintro e w' ⟨rfl, rfl⟩)
  go_ret
  exact ⟨rfl, rfl⟩

/-- The first that is not 0. -/
def or2 (a b : Int) : Int := if a = 0 then b else a
set_option maxHeartbeats 1000000 in
theorem cmp_or2_ok (k cap : Nat) (a b : Int) (W : World) (h0 : W.cell? ⟨k, 0, none⟩ = some (.int .i64 a)) (h1 : W.cell? ⟨k, 1, none⟩ = some (.int .i64 b)) :
    Calls Tryd.prog 78 #[.slice (some ⟨k, 0, none⟩) 2 cap] W fun e W' => e = .returned (.int .i64 (or2 a b)) ∧ W = W' := by
  go_enter Tryd.func78, Tryd.ntmps78
  go_wp2_with fail
  go_loopg [8] 2 (fun q v8 wr => ∃ j : Nat, j + q = 2 ∧ v8 = .int .i64 (j : Int) ∧ (1 ≤ j → a = 0) ∧ (2 ≤ j → b = 0) ∧ W = wr)
  case atStart => exact ⟨0, rfl, rfl, by omega, by omega, rfl⟩
  case round =>
    obtain ⟨j, hj, rfl, ha, hb, rfl⟩ := hrel
    rcases (by omega : j = 0 ∨ j = 1 ∨ j = 2) with rfl | rfl | rfl
    · by_cases hz : a = 0
      · have hzb : (a != 0) = false := by simp [hz]
        have HZ := Lib.hid hz
        clear hz ha hb
        go_wp2_with fail
        go_roundg 1
        case measure => omega
        case rel => exact ⟨1, rfl, rfl, fun _ => HZ.out, by omega, rfl⟩
      · have hzb : (a != 0) = true := by simp [hz]
        have HZ := Lib.hid hz
        clear hz ha hb
        go_wp2_with fail
        go_ret
        exact ⟨ret_int (by unfold or2; rw [if_neg HZ.out]), rfl⟩
    · have ha' := Lib.hid (ha (by omega))
      clear ha hb
      by_cases hz : b = 0
      · have hzb : (b != 0) = false := by simp [hz]
        have HZ := Lib.hid hz
        clear hz
        go_wp2_with fail
        go_roundg 0
        case measure => omega
        case rel => exact ⟨2, rfl, rfl, fun _ => ha'.out, fun _ => HZ.out, rfl⟩
      · have hzb : (b != 0) = true := by simp [hz]
        have HZ := Lib.hid hz
        clear hz
        go_wp2_with fail
        go_ret
        exact ⟨ret_int (by unfold or2; rw [if_pos ha'.out]), rfl⟩
    · have hz := Lib.hid (And.intro (ha (by omega)) (hb (by omega)))
      clear ha hb
      go_wp2_with fail
      go_ret
      exact ⟨ret_int (by unfold or2; rw [if_pos hz.out.1, hz.out.2]), rfl⟩

theorem maskN (a : Nat) (ha : a < 18446744073709551616) : bits .and .u64 (a : Int) 4294967295 = ((a % 4294967296 : Nat) : Int) := by
  have h := bits_and_u64_nat a 4294967295 ha (by omega)
  have e : a &&& 4294967295 = a % 4294967296 := Nat.and_two_pow_sub_one_eq_mod a 32
  rw [e] at h
  exact h
theorem divN (a : Nat) : (a : Int) / 4294967296 = ((a / 4294967296 : Nat) : Int) := by omega
theorem mulN (a b : Nat) : (a : Int) * (b : Int) = ((a * b : Nat) : Int) := (Int.natCast_mul a b).symm
theorem addN (a b : Nat) : (a : Int) + (b : Int) = ((a + b : Nat) : Int) := (Int.natCast_add a b).symm
theorem wrapN (a : Nat) (ha : a < 18446744073709551616) : IntKind.u64.wrap (a : Int) = (a : Int) := by rw [IntKind.wrap_u64]; omega
theorem wrapM (a : Nat) : IntKind.u64.wrap (a : Int) = ((a % 18446744073709551616 : Nat) : Int) := by rw [IntKind.wrap_u64]; omega
set_option maxHeartbeats 1000000 in
theorem mul64_ok (x y : Nat) (hx : x < 18446744073709551616) (hy : y < 18446744073709551616) (w : World) :
    Calls Tryd.prog 80 #[.int .u64 x, .int .u64 y] w fun e w' => e = .returned (.tuple #[.int .u64 ((x * y / 18446744073709551616 : Nat) : Int), .int .u64 ((x * y % 18446744073709551616 : Nat) : Int)]) ∧ w = w' := by
  obtain ⟨bd, bt, bw, hhi⟩ := Lib.mul64_hi x y hx hy
  have ba := Lib.half_mul_le (a := x / 4294967296) (b := y / 4294967296) (by omega) (by omega)
  have bb := Lib.half_mul_le (a := x / 4294967296) (b := y % 4294967296) (by omega) (by omega)
  have bc := Lib.half_mul_le (a := x % 4294967296) (b := y / 4294967296) (by omega) (by omega)
  have ba' : x / 4294967296 * (y / 4294967296) < 18446744073709551616 := by omega
  have bb' : x / 4294967296 * (y % 4294967296) < 18446744073709551616 := by omega
  have bc' : x % 4294967296 * (y / 4294967296) < 18446744073709551616 := by omega
  have bh1 : x / 4294967296 * (y / 4294967296) + (x / 4294967296 * (y % 4294967296) + x % 4294967296 * (y % 4294967296) / 4294967296) / 4294967296 < 18446744073709551616 := by omega
  have bh : x / 4294967296 * (y / 4294967296) + (x / 4294967296 * (y % 4294967296) + x % 4294967296 * (y % 4294967296) / 4294967296) / 4294967296 + ((x / 4294967296 * (y % 4294967296) + x % 4294967296 * (y % 4294967296) / 4294967296) % 4294967296 + x % 4294967296 * (y / 4294967296)) / 4294967296 < 18446744073709551616 := by omega
  go_enter Tryd.func80, Tryd.ntmps80
  go_wp2
  simp only [maskN x hx, maskN y hy, divN, mulN, addN, wrapN _ bd, wrapN _ bb', wrapN _ bt, maskN _ bt, wrapN _ bc', wrapN _ bw, wrapN _ ba', wrapN _ bh1, wrapN _ bh, wrapM (x * y)]
  rw [hhi]
  go_ret2
  exact ⟨rfl, rfl⟩
end Go.Proofs.YtcomnpmkedabeaaDoor

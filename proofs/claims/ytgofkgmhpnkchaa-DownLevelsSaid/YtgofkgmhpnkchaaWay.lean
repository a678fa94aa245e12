/- The least, the greatest, the mean of a row: slices.Min, slices.Max, down's mean, the document's mean. -/
import Derived.Test.YtgofkgmhpnkchaaRng
import Derived.Test.YtgofkgmhpnkchaaFind64
import Derived.Deep.LoopGhost
set_option linter.unusedVariables false
set_option linter.unusedSimpArgs false
namespace Go.Proofs.Ytgofkgmhpnkchaa
open Go.RowKit

def loL (g : Nat → Int) : Nat → Int
  | 0 => g 0
  | n + 1 => if n = 0 then g 0 else imin (loL g n) (g n)
def hiL (g : Nat → Int) : Nat → Int
  | 0 => g 0
  | n + 1 => if n = 0 then g 0 else imax (hiL g n) (g n)
def sumL (g : Nat → Int) : Nat → Int
  | 0 => 0
  | n + 1 => sumL g n + g n
theorem loL_one (g : Nat → Int) : loL g 1 = g 0 := rfl
theorem hiL_one (g : Nat → Int) : hiL g 1 = g 0 := rfl
theorem loL_step (g : Nat → Int) {n : Nat} (h : 1 ≤ n) : loL g (n + 1) = imin (loL g n) (g n) := by
  show (if n = 0 then g 0 else imin (loL g n) (g n)) = _
  rw [if_neg (by omega)]
theorem hiL_step (g : Nat → Int) {n : Nat} (h : 1 ≤ n) : hiL g (n + 1) = imax (hiL g n) (g n) := by
  show (if n = 0 then g 0 else imax (hiL g n) (g n)) = _
  rw [if_neg (by omega)]
theorem sumL_step (g : Nat → Int) (n : Nat) : sumL g (n + 1) = sumL g n + g n := rfl
theorem rngL_lohi (g : Nat → Int) : ∀ n, 1 ≤ n → RngL g n (loL g n) (hiL g n)
  | 0, h => by omega
  | n + 1, _ => by
    by_cases e : n = 0
    · subst e; exact rngL_one g
    · rw [loL_step g (by omega), hiL_step g (by omega)]
      exact rngL_step (rngL_lohi g n (by omega))
theorem RngL.unique {g : Nat → Int} {n : Nat} {a b c d : Int} (h : RngL g n a b) (k : RngL g n c d) : a = c ∧ b = d := by
  obtain ⟨h1, ⟨u1, p1, q1⟩, ⟨u2, p2, q2⟩⟩ := h
  obtain ⟨k1, ⟨s1, i1, j1⟩, ⟨s2, i2, j2⟩⟩ := k
  have := k1 u1 p1
  have := k1 u2 p2
  have := h1 s1 i1
  have := h1 s2 i2
  omega
/-- Values that may be. -/
def MayL (g : Nat → Int) (n : Nat) : Prop := ∀ i, i < n → -2147483648 ≤ g i ∧ g i ≤ 2147483647
theorem sumL_bd {g : Nat → Int} {n : Nat} (h : MayL g n) : ∀ j, j ≤ n → -(2147483648 * (j : Int)) ≤ sumL g j ∧ sumL g j ≤ 2147483647 * (j : Int)
  | 0, _ => by show _ ∧ (0 : Int) ≤ _; exact ⟨by show -(2147483648 * ((0 : Nat) : Int)) ≤ (0 : Int); omega, by omega⟩
  | j + 1, hj => by
    have h1 := sumL_bd h j (by omega)
    have h2 := h j (by omega)
    rw [sumL_step]
    omega
/-- The mean, rounded down. -/
def meanL (g : Nat → Int) (n : Nat) : Int := sumL g n / (n : Int)
theorem meanL_bd {g : Nat → Int} {n : Nat} (h : MayL g n) (hn : 1 ≤ n) : -2147483648 ≤ meanL g n ∧ meanL g n ≤ 2147483647 := by
  have hb := sumL_bd h n (Nat.le_refl _)
  unfold meanL
  constructor
  · exact (Int.le_ediv_iff_mul_le (show (0 : Int) < (n : Int) by omega)).2 (by omega)
  · have := Int.ediv_lt_of_lt_mul (a := sumL g n) (b := 2147483648) (c := (n : Int)) (by omega) (by omega)
    omega
theorem floor_tdiv (s n : Int) (hn : 0 < n) : (if s.tmod n < 0 then s.tdiv n - 1 else s.tdiv n) = s / n := by
  have e := Int.mul_tdiv_add_tmod s n
  have b1 := Int.tmod_lt_of_pos s hn
  have b2 : -n < s.tmod n := by
    have := Int.tmod_lt_of_pos (-s) hn
    rw [Int.neg_tmod] at this
    omega
  by_cases h : s.tmod n < 0
  · rw [if_pos h]
    exact ((Int.ediv_emod_unique hn (a := s) (r := s.tmod n + n) (q := s.tdiv n - 1)).2 ⟨by rw [Int.mul_sub, Int.mul_one]; omega, by omega, by omega⟩).1.symm
  · rw [if_neg h]
    exact ((Int.ediv_emod_unique hn (a := s) (r := s.tmod n) (q := s.tdiv n)).2 ⟨by omega, by omega, by omega⟩).1.symm

set_option maxHeartbeats 1000000 in
theorem min_ok (ad : Addr) (n cap : Nat) (g : Nat → Int) (W : World) (n1 : 1 ≤ n) (n2 : n ≤ 1048576) (hrow : RowAt W ad n g) :
    Calls Try.prog 98 #[.slice (some ad) n cap] W fun e W' => e = .returned (.int .i64 (loL g n)) ∧ W = W' := by
  have c0 := hrow 0 (by omega)
  have HR := Lib.hid hrow
  have q0 : decide (n < 1) = false := decide_eq_false (by omega)
  have q1 : 0 < n := by omega
  rw [show ad.add 0 = ad from by cases ad; simp [Addr.add]] at c0
  clear hrow
  go_enter Try.func98, Try.ntmps98
  go_wp2_with fail
  go_loopg [3, 4] (n - 1) (fun q v3 v4 wr => ∃ j : Nat, Hid (1 + j + q = n) ∧ v3 = .int .i64 (loL g (1 + j)) ∧ v4 = .int .i64 (1 + (j : Int)) ∧ W = wr)
  case atStart => exact ⟨0, show 1 + 0 + (n - 1) = n by omega, rfl, rfl, rfl⟩
  case round =>
    obtain ⟨j, hj, rfl, rfl, rfl⟩ := hrel
    cases gk with
    | zero =>
      have hd : decide (1 + (j : Int) < (n : Int)) = false := decide_eq_false (by have := hj.out; omega)
      go_wp2_with fail
      go_ret
      have ej : 1 + j = n := hj.out
      exact ⟨by rw [ej]; rfl, rfl⟩
    | succ m =>
      have hlt : 1 + j < n := by have := hj.out; omega
      have hd : decide (1 + (j : Int) < (n : Int)) = true := decide_eq_true (by omega)
      have hji : 1 + (j : Int) < (n : Int) := by omega
      have hc := HR.out (1 + j) hlt
      have HS := Lib.hid (loL_step g (show 1 ≤ 1 + j by omega))
      go_wp2_with fail
      go_roundg m
      case measure => omega
      case rel => exact ⟨j + 1, by have := hj.out; exact (show 1 + (j + 1) + m = n by omega), by rw [← HS.out]; rfl, congrArg (Value.int .i64) (by push_cast; omega), rfl⟩

set_option maxHeartbeats 1000000 in
theorem max_ok (ad : Addr) (n cap : Nat) (g : Nat → Int) (W : World) (n1 : 1 ≤ n) (n2 : n ≤ 1048576) (hrow : RowAt W ad n g) :
    Calls Try.prog 99 #[.slice (some ad) n cap] W fun e W' => e = .returned (.int .i64 (hiL g n)) ∧ W = W' := by
  have c0 := hrow 0 (by omega)
  have HR := Lib.hid hrow
  have q0 : decide (n < 1) = false := decide_eq_false (by omega)
  have q1 : 0 < n := by omega
  rw [show ad.add 0 = ad from by cases ad; simp [Addr.add]] at c0
  clear hrow
  go_enter Try.func99, Try.ntmps99
  go_wp2_with fail
  go_loopg [3, 4] (n - 1) (fun q v3 v4 wr => ∃ j : Nat, Hid (1 + j + q = n) ∧ v3 = .int .i64 (hiL g (1 + j)) ∧ v4 = .int .i64 (1 + (j : Int)) ∧ W = wr)
  case atStart => exact ⟨0, show 1 + 0 + (n - 1) = n by omega, rfl, rfl, rfl⟩
  case round =>
    obtain ⟨j, hj, rfl, rfl, rfl⟩ := hrel
    cases gk with
    | zero =>
      have hd : decide (1 + (j : Int) < (n : Int)) = false := decide_eq_false (by have := hj.out; omega)
      go_wp2_with fail
      go_ret
      have ej : 1 + j = n := hj.out
      exact ⟨by rw [ej]; rfl, rfl⟩
    | succ m =>
      have hlt : 1 + j < n := by have := hj.out; omega
      have hd : decide (1 + (j : Int) < (n : Int)) = true := decide_eq_true (by omega)
      have hji : 1 + (j : Int) < (n : Int) := by omega
      have hc := HR.out (1 + j) hlt
      have HS := Lib.hid (hiL_step g (show 1 ≤ 1 + j by omega))
      go_wp2_with fail
      go_roundg m
      case measure => omega
      case rel => exact ⟨j + 1, by have := hj.out; exact (show 1 + (j + 1) + m = n by omega), by rw [← HS.out]; rfl, congrArg (Value.int .i64) (by push_cast; omega), rfl⟩

set_option maxHeartbeats 1000000 in
theorem down_mean_ok (ad : Addr) (n cap : Nat) (g : Nat → Int) (W : World) (n1 : 1 ≤ n) (n2 : n ≤ 1048576) (hm : MayL g n) (hrow : RowAt W ad n g) :
    Calls Try.prog 100 #[.slice (some ad) n cap] W fun e W' => e = .returned (.int .i64 (meanL g n)) ∧ W = W' := by
  have HR := Lib.hid hrow
  have HM := Lib.hid hm
  clear hrow hm
  go_enter Try.func100, Try.ntmps100
  go_wp2_with fail
  go_loopg [3, 12] n (fun q v3 v12 wr => ∃ j : Nat, Hid (j + q = n) ∧ v3 = .int .i64 (sumL g j) ∧ v12 = .int .i64 (j : Int) ∧ W = wr)
  case atStart => exact ⟨0, Nat.zero_add _, rfl, rfl, rfl⟩
  case round =>
    obtain ⟨j, hj, rfl, rfl, rfl⟩ := hrel
    cases gk with
    | zero =>
      have hd : decide (j < n) = false := decide_eq_false (by have := hj.out; omega)
      have hd2 : decide ((j : Int) < (n : Int)) = false := decide_eq_false (by have := hj.out; omega)
      have hn0 : ((n : Int) == 0) = false := by simp; omega
      have ej : j = n := hj.out
      have b1 := sumL_bd HM.out j (by omega)
      have hfl := floor_tdiv (sumL g j) n (by omega)
      have t1 := Int.tmod_lt_of_pos (sumL g j) (show (0 : Int) < (n : Int) by omega)
      have e1 := Int.mul_tdiv_add_tmod (sumL g j) n
      have HF := Lib.hid hfl
      have HEJ := Lib.hid ej
      clear hfl ej e1
      by_cases hneg : (sumL g j).tmod (n : Int) < 0
      · have hnd := decide_eq_true hneg
        go_wp2_with fail
        go_ret
        have hf := HF.out
        rw [if_pos hneg] at hf
        have hb := meanL_bd HM.out n1
        rw [HEJ.out] at hf ⊢
        have hm : (sumL g n).tdiv n - 1 = meanL g n := hf
        refine ⟨ret_int ?_, rfl⟩
        rw [wrap64_id (x := (sumL g n).tdiv n) (by omega) (by omega), wrap64_id (by omega) (by omega)]
        exact hm
      · have hnd := decide_eq_false hneg
        go_wp2_with fail
        go_ret
        have hf := HF.out
        rw [if_neg (by omega)] at hf
        have hb := meanL_bd HM.out n1
        rw [HEJ.out] at hf ⊢
        have hm : (sumL g n).tdiv n = meanL g n := hf
        refine ⟨ret_int ?_, rfl⟩
        rw [wrap64_id (by omega) (by omega)]
        exact hm
    | succ m =>
      have hlt : j < n := by have := hj.out; omega
      have hd : decide (j < n) = true := decide_eq_true hlt
      have hd2 : decide ((j : Int) < (n : Int)) = true := decide_eq_true (by omega)
      have hji : (j : Int) < (n : Int) := by omega
      have hc := HR.out j hlt
      have b1 := sumL_bd HM.out j (by omega)
      have b2 := HM.out j hlt
      have HS := Lib.hid (sumL_step g j)
      go_wp2_with fail
      go_roundg m
      case measure => omega
      case rel => exact ⟨j + 1, by have := hj.out; exact (show j + 1 + m = n by omega), by rw [HS.out], congrArg (Value.int .i64) (by push_cast; omega), rfl⟩

set_option maxHeartbeats 1000000 in
theorem ref18_mean_ok (ad : Addr) (n cap : Nat) (g : Nat → Int) (W : World) (n1 : 1 ≤ n) (n2 : n ≤ 1048576) (hm : MayL g n) (hrow : RowAt W ad n g) :
    Calls Try.prog 61 #[.slice (some ad) n cap] W fun e W' => e = .returned (.int .i64 (meanL g n)) ∧ W = W' := by
  have HR := Lib.hid hrow
  have HM := Lib.hid hm
  clear hrow hm
  go_enter Try.func61, Try.ntmps61
  go_wp2_with fail
  go_loopg [3, 4] n (fun q v3 v4 wr => ∃ j : Nat, Hid (j + q = n) ∧ v3 = .int .i64 (sumL g j) ∧ v4 = .int .i64 (j : Int) ∧ W = wr)
  case atStart => exact ⟨0, Nat.zero_add _, rfl, rfl, rfl⟩
  case round =>
    obtain ⟨j, hj, rfl, rfl, rfl⟩ := hrel
    cases gk with
    | zero =>
      have hd : decide (j < n) = false := decide_eq_false (by have := hj.out; omega)
      have hd2 : decide ((j : Int) < (n : Int)) = false := decide_eq_false (by have := hj.out; omega)
      have hn0 : ((n : Int) == 0) = false := by simp; omega
      have ej : j = n := hj.out
      have b1 := sumL_bd HM.out j (by omega)
      have hfl := floor_tdiv (sumL g j) n (by omega)
      have t1 := Int.tmod_lt_of_pos (sumL g j) (show (0 : Int) < (n : Int) by omega)
      have e1 := Int.mul_tdiv_add_tmod (sumL g j) n
      have hq1 := Int.mul_ediv_add_emod (sumL g j) n
      have hq2 := Int.emod_nonneg (sumL g j) (show (n : Int) ≠ 0 by omega)
      have hq3 := Int.emod_lt_of_pos (sumL g j) (show (0 : Int) < (n : Int) by omega)
      have hb := meanL_bd HM.out n1
      have hme : meanL g n = sumL g j / (n : Int) := by rw [ej]; rfl
      rw [hme] at hb
      have hcase : ((sumL g j).tdiv n = sumL g j / n ∧ (sumL g j).tdiv n * n ≤ sumL g j ∧ sumL g j - n < (sumL g j).tdiv n * n) ∨ ((sumL g j).tdiv n - 1 = sumL g j / n ∧ sumL g j < (sumL g j).tdiv n * n ∧ (sumL g j).tdiv n * n ≤ sumL g j + n ∧ ((sumL g j).tdiv n - 1) * n ≤ sumL g j ∧ sumL g j - n < ((sumL g j).tdiv n - 1) * n) := by
        have c := Int.mul_comm ((sumL g j).tdiv n) n
        have d := Int.sub_mul ((sumL g j).tdiv n) 1 n
        rw [Int.one_mul] at d
        by_cases hneg : (sumL g j).tmod (n : Int) < 0
        · rw [if_pos hneg] at hfl
          have hx : (n : Int) * (sumL g j / n) = ((sumL g j).tdiv n - 1) * n := by rw [← hfl, Int.mul_comm]
          exact .inr ⟨hfl, by omega, by omega, by omega, by omega⟩
        · rw [if_neg hneg] at hfl
          have hx : (n : Int) * (sumL g j / n) = (sumL g j).tdiv n * n := by rw [← hfl, Int.mul_comm]
          exact .inl ⟨hfl, by omega, by omega⟩
      have w1 : wrap64 ((sumL g j).tdiv n) = (sumL g j).tdiv n := wrap64_id (by omega) (by omega)
      have hbt : -2147483650 ≤ (sumL g j).tdiv n ∧ (sumL g j).tdiv n ≤ 2147483650 := by omega
      obtain ⟨m0, hm0⟩ : ∃ m0, (sumL g j).tdiv n = m0 := ⟨_, rfl⟩
      rw [hm0] at hcase hbt
      have HC := Lib.hid hcase
      have HM0 := Lib.hid hm0
      have HME := Lib.hid hme
      have HBT := Lib.hid hbt
      have hjn : j ≤ 1048576 := by omega
      clear hfl t1 e1 hq1 hq2 hq3 hcase hme hb ej hm0
      go_wp2_with fail
      clear w1
      rw [HM0.out]
      try rw [wrap64_id (x := m0) (by have := HBT.out; omega) (by have := HBT.out; omega)]
      go_loopg [6] 1 (fun q v6 wr => ∃ m : Int, v6 = .int .i64 m ∧ Hid (-2147483651 ≤ m ∧ m ≤ 2147483651) ∧ Hid ((m = meanL g n ∧ m * n ≤ sumL g j ∧ sumL g j - n < m * n) ∨ (q = 1 ∧ m - 1 = meanL g n ∧ sumL g j < m * n ∧ m * n ≤ sumL g j + n ∧ (m - 1) * n ≤ sumL g j ∧ sumL g j - n < (m - 1) * n)) ∧ W = wr)
      case atStart => exact ⟨m0, rfl, ⟨by have := HBT.out; omega, by have := HBT.out; omega⟩, HC.out.imp (fun h => ⟨by rw [HME.out]; exact h.1, h.2⟩) (fun h => ⟨rfl, by rw [HME.out]; exact h.1, h.2⟩), rfl⟩
      case round =>
        obtain ⟨m, rfl, hmb, hor, rfl⟩ := hrel
        have hmb' := hmb.out
        rcases hor.out with ⟨k1, k2, k3⟩ | ⟨k0, k1, k2, k3, k4, k5⟩
        · have hw : wrap64 (m * n) = m * n := wrap64_id (by omega) (by omega)
          have ht : decide (sumL g j < m * n) = false := decide_eq_false (by omega)
          have HK1 := Lib.hid k1
          clear k1 hor
          go_wp2_with fail
          go_ret
          exact ⟨by rw [← HK1.out]; rfl, rfl⟩
        · have hw : wrap64 (m * n) = m * n := wrap64_id (by omega) (by omega)
          have ht : decide (sumL g j < m * n) = true := decide_eq_true k2
          have HK := Lib.hid (And.intro k1 (And.intro k4 k5))
          have hk0 : 0 < gk := by omega
          have hm2 : -2147483651 ≤ m - 1 ∧ m - 1 ≤ 2147483651 := by have := meanL_bd HM.out n1; omega
          have HMB2 := Lib.hid hm2
          clear hm2
          clear k1 k4 k5 hor k0
          go_wp2_with fail
          go_roundg 0
          case measure => omega
          case rel => exact ⟨m - 1, by first | rfl | exact congrArg (Value.int .i64) (wrap64_id (by have := hmb.out; omega) (by have := hmb.out; omega)), ⟨by have := HMB2.out; omega, by have := HMB2.out; omega⟩, .inl HK.out, rfl⟩
    | succ m =>
      have hlt : j < n := by have := hj.out; omega
      have hd : decide (j < n) = true := decide_eq_true hlt
      have hd2 : decide ((j : Int) < (n : Int)) = true := decide_eq_true (by omega)
      have hji : (j : Int) < (n : Int) := by omega
      have hc := HR.out j hlt
      have b1 := sumL_bd HM.out j (by omega)
      have b2 := HM.out j hlt
      have HS := Lib.hid (sumL_step g j)
      go_wp2_with fail
      go_roundg m
      case measure => omega
      case rel => exact ⟨j + 1, by have := hj.out; exact (show j + 1 + m = n by omega), by rw [HS.out], congrArg (Value.int .i64) (by push_cast; omega), rfl⟩
end Go.Proofs.Ytgofkgmhpnkchaa

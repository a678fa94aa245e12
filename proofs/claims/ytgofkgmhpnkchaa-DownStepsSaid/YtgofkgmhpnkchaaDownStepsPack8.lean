/- Texts of this claim, joined: Way, DownWay, NilFn, GridSet. -/
import Derived.Test.YtgofkgmhpnkchaaDownStepsPack1
import Derived.Test.YtgofkgmhpnkchaaDownStepsPack5
import Derived.Test.YtgofkgmhpnkchaaDownStepsPack6
import Derived.Test.YtgofkgmhpnkchaaDownStepsPack7
import Derived.Deep.LoopGhost
import Derived.Deep.MidRow
/- The least, the greatest, the mean of a row: slices.Min, slices.Max, down's mean, the document's mean. -/
set_option linter.unusedVariables false
set_option linter.unusedSimpArgs false
namespace Go.Proofs.Ytgofkgmhpnkchaa
open Go.RowKit

def loL (g : Nat → Int) : Nat → Int
  | 0 => g 0
  | n + 1 => if n = 0 then g 0 else imin (loL g n) (g n)
def hiL (g : Nat → Int) : Nat → Int
  | 0 => g 0
  | n + 1 => if n = 0 then g 0 else imax (hiL g n) (g n)
def sumL (g : Nat → Int) : Nat → Int
  | 0 => 0
  | n + 1 => sumL g n + g n
theorem loL_one (g : Nat → Int) : loL g 1 = g 0 := rfl
theorem hiL_one (g : Nat → Int) : hiL g 1 = g 0 := rfl
theorem loL_step (g : Nat → Int) {n : Nat} (h : 1 ≤ n) : loL g (n + 1) = imin (loL g n) (g n) := by
  show (if n = 0 then g 0 else imin (loL g n) (g n)) = _
  rw [if_neg (by omega)]
theorem hiL_step (g : Nat → Int) {n : Nat} (h : 1 ≤ n) : hiL g (n + 1) = imax (hiL g n) (g n) := by
  show (if n = 0 then g 0 else imax (hiL g n) (g n)) = _
  rw [if_neg (by omega)]
theorem sumL_step (g : Nat → Int) (n : Nat) : sumL g (n + 1) = sumL g n + g n := rfl
theorem rngL_lohi (g : Nat → Int) : ∀ n, 1 ≤ n → RngL g n (loL g n) (hiL g n)
  | 0, h => by omega
  | n + 1, _ => by
    by_cases e : n = 0
    · subst e; exact rngL_one g
    · rw [loL_step g (by omega), hiL_step g (by omega)]
      exact rngL_step (rngL_lohi g n (by omega))
theorem RngL.unique {g : Nat → Int} {n : Nat} {a b c d : Int} (h : RngL g n a b) (k : RngL g n c d) : a = c ∧ b = d := by
  obtain ⟨h1, ⟨u1, p1, q1⟩, ⟨u2, p2, q2⟩⟩ := h
  obtain ⟨k1, ⟨s1, i1, j1⟩, ⟨s2, i2, j2⟩⟩ := k
  have := k1 u1 p1
  have := k1 u2 p2
  have := h1 s1 i1
  have := h1 s2 i2
  omega
/-- Values that may be. -/
def MayL (g : Nat → Int) (n : Nat) : Prop := ∀ i, i < n → -2147483648 ≤ g i ∧ g i ≤ 2147483647
theorem sumL_bd {g : Nat → Int} {n : Nat} (h : MayL g n) : ∀ j, j ≤ n → -(2147483648 * (j : Int)) ≤ sumL g j ∧ sumL g j ≤ 2147483647 * (j : Int)
  | 0, _ => by show _ ∧ (0 : Int) ≤ _; exact ⟨by show -(2147483648 * ((0 : Nat) : Int)) ≤ (0 : Int); omega, by omega⟩
  | j + 1, hj => by
    have h1 := sumL_bd h j (by omega)
    have h2 := h j (by omega)
    rw [sumL_step]
    omega
/-- The mean, rounded down. -/
def meanL (g : Nat → Int) (n : Nat) : Int := sumL g n / (n : Int)
theorem meanL_bd {g : Nat → Int} {n : Nat} (h : MayL g n) (hn : 1 ≤ n) : -2147483648 ≤ meanL g n ∧ meanL g n ≤ 2147483647 := by
  have hb := sumL_bd h n (Nat.le_refl _)
  unfold meanL
  constructor
  · exact (Int.le_ediv_iff_mul_le (show (0 : Int) < (n : Int) by omega)).2 (by omega)
  · have := Int.ediv_lt_of_lt_mul (a := sumL g n) (b := 2147483648) (c := (n : Int)) (by omega) (by omega)
    omega
set_option maxHeartbeats 1000000 in
theorem min_ok (ad : Addr) (n cap : Nat) (g : Nat → Int) (W : World) (n1 : 1 ≤ n) (n2 : n ≤ 1048576) (hrow : RowAt W ad n g) :
    Calls Try.prog 98 #[.slice (some ad) n cap] W fun e W' => e = .returned (.int .i64 (loL g n)) ∧ W = W' := by
  have c0 := hrow 0 (by omega)
  have HR := Lib.hid hrow
  have q0 : decide (n < 1) = false := decide_eq_false (by omega)
  have q1 : 0 < n := by omega
  rw [show ad.add 0 = ad from by cases ad; simp [Addr.add]] at c0
  clear hrow
  go_enter Try.func98, Try.ntmps98
  go_wp2_with fail
  go_loopg [3, 4] (n - 1) (fun q v3 v4 wr => ∃ j : Nat, Hid (1 + j + q = n) ∧ v3 = .int .i64 (loL g (1 + j)) ∧ v4 = .int .i64 (1 + (j : Int)) ∧ W = wr)
  case atStart => exact ⟨0, show 1 + 0 + (n - 1) = n by omega, rfl, rfl, rfl⟩
  case round =>
    obtain ⟨j, hj, rfl, rfl, rfl⟩ := hrel
    cases gk with
    | zero =>
      have hd : decide (1 + (j : Int) < (n : Int)) = false := decide_eq_false (by have := hj.out; omega)
      go_wp2_with fail
      go_ret
      have ej : 1 + j = n := hj.out
      exact ⟨by rw [ej]; rfl, rfl⟩
    | succ m =>
      have hlt : 1 + j < n := by have := hj.out; omega
      have hd : decide (1 + (j : Int) < (n : Int)) = true := decide_eq_true (by omega)
      have hji : 1 + (j : Int) < (n : Int) := by omega
      have hc := HR.out (1 + j) hlt
      have HS := Lib.hid (loL_step g (show 1 ≤ 1 + j by omega))
      go_wp2_with fail
      go_roundg m
      case measure => omega
      case rel => exact ⟨j + 1, by have := hj.out; exact (show 1 + (j + 1) + m = n by omega), by rw [← HS.out]; rfl, congrArg (Value.int .i64) (by push_cast; omega), rfl⟩

set_option maxHeartbeats 1000000 in
theorem max_ok (ad : Addr) (n cap : Nat) (g : Nat → Int) (W : World) (n1 : 1 ≤ n) (n2 : n ≤ 1048576) (hrow : RowAt W ad n g) :
    Calls Try.prog 99 #[.slice (some ad) n cap] W fun e W' => e = .returned (.int .i64 (hiL g n)) ∧ W = W' := by
  have c0 := hrow 0 (by omega)
  have HR := Lib.hid hrow
  have q0 : decide (n < 1) = false := decide_eq_false (by omega)
  have q1 : 0 < n := by omega
  rw [show ad.add 0 = ad from by cases ad; simp [Addr.add]] at c0
  clear hrow
  go_enter Try.func99, Try.ntmps99
  go_wp2_with fail
  go_loopg [3, 4] (n - 1) (fun q v3 v4 wr => ∃ j : Nat, Hid (1 + j + q = n) ∧ v3 = .int .i64 (hiL g (1 + j)) ∧ v4 = .int .i64 (1 + (j : Int)) ∧ W = wr)
  case atStart => exact ⟨0, show 1 + 0 + (n - 1) = n by omega, rfl, rfl, rfl⟩
  case round =>
    obtain ⟨j, hj, rfl, rfl, rfl⟩ := hrel
    cases gk with
    | zero =>
      have hd : decide (1 + (j : Int) < (n : Int)) = false := decide_eq_false (by have := hj.out; omega)
      go_wp2_with fail
      go_ret
      have ej : 1 + j = n := hj.out
      exact ⟨by rw [ej]; rfl, rfl⟩
    | succ m =>
      have hlt : 1 + j < n := by have := hj.out; omega
      have hd : decide (1 + (j : Int) < (n : Int)) = true := decide_eq_true (by omega)
      have hji : 1 + (j : Int) < (n : Int) := by omega
      have hc := HR.out (1 + j) hlt
      have HS := Lib.hid (hiL_step g (show 1 ≤ 1 + j by omega))
      go_wp2_with fail
      go_roundg m
      case measure => omega
      case rel => exact ⟨j + 1, by have := hj.out; exact (show 1 + (j + 1) + m = n by omega), by rw [← HS.out]; rfl, congrArg (Value.int .i64) (by push_cast; omega), rfl⟩

set_option maxHeartbeats 1000000 in
theorem down_mean_ok (ad : Addr) (n cap : Nat) (g : Nat → Int) (W : World) (n1 : 1 ≤ n) (n2 : n ≤ 1048576) (hm : MayL g n) (hrow : RowAt W ad n g) :
    Calls Try.prog 100 #[.slice (some ad) n cap] W fun e W' => e = .returned (.int .i64 (meanL g n)) ∧ W = W' := by
  have HR := Lib.hid hrow
  have HM := Lib.hid hm
  clear hrow hm
  go_enter Try.func100, Try.ntmps100
  go_wp2_with fail
  go_loopg [3, 12] n (fun q v3 v12 wr => ∃ j : Nat, Hid (j + q = n) ∧ v3 = .int .i64 (sumL g j) ∧ v12 = .int .i64 (j : Int) ∧ W = wr)
  case atStart => exact ⟨0, Nat.zero_add _, rfl, rfl, rfl⟩
  case round =>
    obtain ⟨j, hj, rfl, rfl, rfl⟩ := hrel
    cases gk with
    | zero =>
      have hd : decide (j < n) = false := decide_eq_false (by have := hj.out; omega)
      have hd2 : decide ((j : Int) < (n : Int)) = false := decide_eq_false (by have := hj.out; omega)
      have hn0 : ((n : Int) == 0) = false := by simp; omega
      have ej : j = n := hj.out
      have b1 := sumL_bd HM.out j (by omega)
      have hfl := floor_tdiv (sumL g j) n (by omega)
      have t1 := Int.tmod_lt_of_pos (sumL g j) (show (0 : Int) < (n : Int) by omega)
      have e1 := Int.mul_tdiv_add_tmod (sumL g j) n
      have HF := Lib.hid hfl
      have HEJ := Lib.hid ej
      clear hfl ej e1
      by_cases hneg : (sumL g j).tmod (n : Int) < 0
      · have hnd := decide_eq_true hneg
        go_wp2_with fail
        go_ret
        have hf := HF.out
        rw [if_pos hneg] at hf
        have hb := meanL_bd HM.out n1
        rw [HEJ.out] at hf ⊢
        have hm : (sumL g n).tdiv n - 1 = meanL g n := hf
        refine ⟨ret_int ?_, rfl⟩
        rw [wrap64_id (x := (sumL g n).tdiv n) (by omega) (by omega), wrap64_id (by omega) (by omega)]
        exact hm
      · have hnd := decide_eq_false hneg
        go_wp2_with fail
        go_ret
        have hf := HF.out
        rw [if_neg (by omega)] at hf
        have hb := meanL_bd HM.out n1
        rw [HEJ.out] at hf ⊢
        have hm : (sumL g n).tdiv n = meanL g n := hf
        refine ⟨ret_int ?_, rfl⟩
        rw [wrap64_id (by omega) (by omega)]
        exact hm
    | succ m =>
      have hlt : j < n := by have := hj.out; omega
      have hd : decide (j < n) = true := decide_eq_true hlt
      have hd2 : decide ((j : Int) < (n : Int)) = true := decide_eq_true (by omega)
      have hji : (j : Int) < (n : Int) := by omega
      have hc := HR.out j hlt
      have b1 := sumL_bd HM.out j (by omega)
      have b2 := HM.out j hlt
      have HS := Lib.hid (sumL_step g j)
      go_wp2_with fail
      go_roundg m
      case measure => omega
      case rel => exact ⟨j + 1, by have := hj.out; exact (show j + 1 + m = n by omega), by rw [HS.out], congrArg (Value.int .i64) (by push_cast; omega), rfl⟩

set_option maxHeartbeats 1000000 in
theorem ref18_mean_ok (ad : Addr) (n cap : Nat) (g : Nat → Int) (W : World) (n1 : 1 ≤ n) (n2 : n ≤ 1048576) (hm : MayL g n) (hrow : RowAt W ad n g) :
    Calls Try.prog 61 #[.slice (some ad) n cap] W fun e W' => e = .returned (.int .i64 (meanL g n)) ∧ W = W' := by
  have HR := Lib.hid hrow
  have HM := Lib.hid hm
  clear hrow hm
  go_enter Try.func61, Try.ntmps61
  go_wp2_with fail
  go_loopg [3, 4] n (fun q v3 v4 wr => ∃ j : Nat, Hid (j + q = n) ∧ v3 = .int .i64 (sumL g j) ∧ v4 = .int .i64 (j : Int) ∧ W = wr)
  case atStart => exact ⟨0, Nat.zero_add _, rfl, rfl, rfl⟩
  case round =>
    obtain ⟨j, hj, rfl, rfl, rfl⟩ := hrel
    cases gk with
    | zero =>
      have hd : decide (j < n) = false := decide_eq_false (by have := hj.out; omega)
      have hd2 : decide ((j : Int) < (n : Int)) = false := decide_eq_false (by have := hj.out; omega)
      have hn0 : ((n : Int) == 0) = false := by simp; omega
      have ej : j = n := hj.out
      have b1 := sumL_bd HM.out j (by omega)
      have hfl := floor_tdiv (sumL g j) n (by omega)
      have t1 := Int.tmod_lt_of_pos (sumL g j) (show (0 : Int) < (n : Int) by omega)
      have e1 := Int.mul_tdiv_add_tmod (sumL g j) n
      have hq1 := Int.mul_ediv_add_emod (sumL g j) n
      have hq2 := Int.emod_nonneg (sumL g j) (show (n : Int) ≠ 0 by omega)
      have hq3 := Int.emod_lt_of_pos (sumL g j) (show (0 : Int) < (n : Int) by omega)
      have hb := meanL_bd HM.out n1
      have hme : meanL g n = sumL g j / (n : Int) := by rw [ej]; rfl
      rw [hme] at hb
      have hcase : ((sumL g j).tdiv n = sumL g j / n ∧ (sumL g j).tdiv n * n ≤ sumL g j ∧ sumL g j - n < (sumL g j).tdiv n * n) ∨ ((sumL g j).tdiv n - 1 = sumL g j / n ∧ sumL g j < (sumL g j).tdiv n * n ∧ (sumL g j).tdiv n * n ≤ sumL g j + n ∧ ((sumL g j).tdiv n - 1) * n ≤ sumL g j ∧ sumL g j - n < ((sumL g j).tdiv n - 1) * n) := by
        have c := Int.mul_comm ((sumL g j).tdiv n) n
        have d := Int.sub_mul ((sumL g j).tdiv n) 1 n
        rw [Int.one_mul] at d
        by_cases hneg : (sumL g j).tmod (n : Int) < 0
        · rw [if_pos hneg] at hfl
          have hx : (n : Int) * (sumL g j / n) = ((sumL g j).tdiv n - 1) * n := by rw [← hfl, Int.mul_comm]
          exact .inr ⟨hfl, by omega, by omega, by omega, by omega⟩
        · rw [if_neg hneg] at hfl
          have hx : (n : Int) * (sumL g j / n) = (sumL g j).tdiv n * n := by rw [← hfl, Int.mul_comm]
          exact .inl ⟨hfl, by omega, by omega⟩
      have w1 : wrap64 ((sumL g j).tdiv n) = (sumL g j).tdiv n := wrap64_id (by omega) (by omega)
      have hbt : -2147483650 ≤ (sumL g j).tdiv n ∧ (sumL g j).tdiv n ≤ 2147483650 := by omega
      obtain ⟨m0, hm0⟩ : ∃ m0, (sumL g j).tdiv n = m0 := ⟨_, rfl⟩
      rw [hm0] at hcase hbt
      have HC := Lib.hid hcase
      have HM0 := Lib.hid hm0
      have HME := Lib.hid hme
      have HBT := Lib.hid hbt
      have hjn : j ≤ 1048576 := by omega
      clear hfl t1 e1 hq1 hq2 hq3 hcase hme hb ej hm0
      go_wp2_with fail
      clear w1
      rw [HM0.out]
      try rw [wrap64_id (x := m0) (by have := HBT.out; omega) (by have := HBT.out; omega)]
      go_loopg [6] 1 (fun q v6 wr => ∃ m : Int, v6 = .int .i64 m ∧ Hid (-2147483651 ≤ m ∧ m ≤ 2147483651) ∧ Hid ((m = meanL g n ∧ m * n ≤ sumL g j ∧ sumL g j - n < m * n) ∨ (q = 1 ∧ m - 1 = meanL g n ∧ sumL g j < m * n ∧ m * n ≤ sumL g j + n ∧ (m - 1) * n ≤ sumL g j ∧ sumL g j - n < (m - 1) * n)) ∧ W = wr)
      case atStart => exact ⟨m0, rfl, ⟨by have := HBT.out; omega, by have := HBT.out; omega⟩, HC.out.imp (fun h => ⟨by rw [HME.out]; exact h.1, h.2⟩) (fun h => ⟨rfl, by rw [HME.out]; exact h.1, h.2⟩), rfl⟩
      case round =>
        obtain ⟨m, rfl, hmb, hor, rfl⟩ := hrel
        have hmb' := hmb.out
        rcases hor.out with ⟨k1, k2, k3⟩ | ⟨k0, k1, k2, k3, k4, k5⟩
        · have hw : wrap64 (m * n) = m * n := wrap64_id (by omega) (by omega)
          have ht : decide (sumL g j < m * n) = false := decide_eq_false (by omega)
          have HK1 := Lib.hid k1
          clear k1 hor
          go_wp2_with fail
          go_ret
          exact ⟨by rw [← HK1.out]; rfl, rfl⟩
        · have hw : wrap64 (m * n) = m * n := wrap64_id (by omega) (by omega)
          have ht : decide (sumL g j < m * n) = true := decide_eq_true k2
          have HK := Lib.hid (And.intro k1 (And.intro k4 k5))
          have hk0 : 0 < gk := by omega
          have hm2 : -2147483651 ≤ m - 1 ∧ m - 1 ≤ 2147483651 := by have := meanL_bd HM.out n1; omega
          have HMB2 := Lib.hid hm2
          clear hm2
          clear k1 k4 k5 hor k0
          go_wp2_with fail
          go_roundg 0
          case measure => omega
          case rel => exact ⟨m - 1, by first | rfl | exact congrArg (Value.int .i64) (wrap64_id (by have := hmb.out; omega) (by have := hmb.out; omega)), ⟨by have := HMB2.out; omega, by have := HMB2.out; omega⟩, .inl HK.out, rfl⟩
    | succ m =>
      have hlt : j < n := by have := hj.out; omega
      have hd : decide (j < n) = true := decide_eq_true hlt
      have hd2 : decide ((j : Int) < (n : Int)) = true := decide_eq_true (by omega)
      have hji : (j : Int) < (n : Int) := by omega
      have hc := HR.out j hlt
      have b1 := sumL_bd HM.out j (by omega)
      have b2 := HM.out j hlt
      have HS := Lib.hid (sumL_step g j)
      go_wp2_with fail
      go_roundg m
      case measure => omega
      case rel => exact ⟨j + 1, by have := hj.out; exact (show j + 1 + m = n by omega), by rw [HS.out], congrArg (Value.int .i64) (by push_cast; omega), rfl⟩
end Go.Proofs.Ytgofkgmhpnkchaa
/- down.way; tier.Size of a level that isn't there. -/
set_option linter.unusedVariables false
set_option linter.unusedSimpArgs false
namespace Go.Proofs.Ytgofkgmhpnkchaa
open Go.RowKit

def wayL (how : Int) (g : Nat → Int) (n : Nat) : Int := if how = 0 then loL g n else if how = 1 then hiL g n else meanL g n
theorem wayL_bd {how : Int} {g : Nat → Int} {n : Nat} (h : MayL g n) (hn : 1 ≤ n) : -2147483648 ≤ wayL how g n ∧ wayL how g n ≤ 2147483647 := by
  obtain ⟨h1, ⟨i, hi, ei⟩, ⟨j, hj, ej⟩⟩ := rngL_lohi g n hn
  have b1 := h i hi
  have b2 := h j hj
  have b3 := meanL_bd h hn
  unfold wayL
  split
  · omega
  · split <;> omega
theorem way0_ok (W : World) : Calls Try.prog 59 #[.int .i64 0] W fun e W' => e = .returned (.func (.func 98) #[] #[]) ∧ W = W' := by
  go_enter Try.func59, Try.ntmps59
  go_wp2_with fail
  go_ret
  exact ⟨rfl, rfl⟩
theorem way1_ok (W : World) : Calls Try.prog 59 #[.int .i64 1] W fun e W' => e = .returned (.func (.func 99) #[] #[]) ∧ W = W' := by
  go_enter Try.func59, Try.ntmps59
  go_wp2_with fail
  go_ret
  exact ⟨rfl, rfl⟩
theorem way2_ok (W : World) : Calls Try.prog 59 #[.int .i64 2] W fun e W' => e = .returned (.func (.func 100) #[] #[]) ∧ W = W' := by
  go_enter Try.func59, Try.ntmps59
  go_wp2_with fail
  go_ret
  exact ⟨rfl, rfl⟩
theorem way_none (how : Int) (W : World) (h : ¬ (0 ≤ how ∧ how ≤ 2)) : Calls Try.prog 59 #[.int .i64 how] W fun e W' => e = .returned .nilFunc ∧ W = W' := by
  have t0 : (how == 0) = false := by simp; omega
  have t1 : (how == 1) = false := by simp; omega
  have t2 : (how == 2) = false := by simp; omega
  go_enter Try.func59, Try.ntmps59
  go_wp2_with fail
  go_ret
  exact ⟨rfl, rfl⟩
set_option maxHeartbeats 2000000 in
theorem tier_size_bad (w h k : Int) (W : World) (w1 : 1 ≤ w) (w2 : w ≤ 1024) (h1 : 1 ≤ h) (h2 : h ≤ 1024) (hk : ¬ (0 ≤ k ∧ k < (levs w h : Int))) :
    Calls Try.prog 46 #[.int .i64 w, .int .i64 h, .int .i64 k] W fun e W' => e = .returned (.tuple #[.int .i64 0, .int .i64 0, .int .i64 11]) ∧ Below W.heap.size W W' := by
  have hL := levs_bd w1 w2 h1 h2
  obtain ⟨L, hLe⟩ : ∃ L, levs w h = L := ⟨_, rfl⟩
  have HL := Lib.hid hLe
  rw [hLe] at hk hL
  clear hLe
  go_enter Try.func46, Try.ntmps46
  go_wp2_with fail
  refine (levels_ok w h _ w1 w2 h1 h2).mono ?_
  rw [HL.out]
  rintro e w3 ⟨rfl, hb⟩
  by_cases hk0 : k < 0
  · have d0 := decide_eq_true hk0
    go_wp2_with fail
    refine bodyPost_ret (results_tmp3 rfl _ _ _) rfl ?_
    exact ⟨rfl, hb⟩
  · have d0 := decide_eq_false hk0
    have d1 : decide ((L : Int) ≤ k) = true := decide_eq_true (by omega)
    go_wp2_with fail
    refine bodyPost_ret (results_tmp3 rfl _ _ _) rfl ?_
    exact ⟨rfl, hb⟩
end Go.Proofs.Ytgofkgmhpnkchaa
/- A function is not the nil one. -/
set_option linter.unusedVariables false
set_option linter.unusedSimpArgs false
namespace Go.Proofs.Ytgofkgmhpnkchaa
open Go.RowKit
theorem func_not_nil (FN : FuncId) (w : World) : (binOp BinOp.eql 116 (.func (.func FN) #[] #[]) .nilFunc).run Try.prog w = .ok (.bool false) w := by
  have h : ∀ d : Nat, (Op.equalIn (d + 1) 116 (.func (.func FN) #[] #[]) .nilFunc).run Try.prog w = .ok false w := fun d => by
    simp [Op.equalIn, run_underlying Try.underlying116]
  have h2 : (Op.equal 116 (.func (.func FN) #[] #[]) .nilFunc).run Try.prog w = .ok false w := h _
  simp [binOp, h2, Sem.run_bind, Sem.run_pure]
end Go.Proofs.Ytgofkgmhpnkchaa
/- A grid in which a piece of one tile is filled: plain, without the program's text. -/
set_option linter.unusedVariables false
set_option linter.unusedSimpArgs false
namespace Go.Proofs.Ytgofkgmhpnkchaa
open Go.RowKit

theorem LandAt.congr {W : World} {F : Nat → Prop} {w h : Int} {f f' : Int → Int → Int} {c : Value} (H : LandAt W F w h f c) (e : ∀ x y, 0 ≤ x → x < w → 0 ≤ y → y < h → f' x y = f x y) : LandAt W F w h f' c := by
  rcases H with ⟨v, h1, h2, h3, h4⟩ | ⟨k, n, cap, cs, h1, h2, h2', h3, h4, h5, h6⟩
  · exact .inl ⟨v, h1, h2, h3, fun x y a b c d => (e x y a b c d).trans (h4 x y a b c d)⟩
  · exact .inr ⟨k, n, cap, cs, h1, h2, h2', h3, h4, h5, fun x y a b c d => by rw [e x y a b c d]; exact h6 x y a b c d⟩
theorem SlabAt.congr {W : World} {b : Nat} {F : Nat → Prop} {w h : Int} {f f' : Int → Int → Int} (H : SlabAt W b F w h f) (e : ∀ x y, 0 ≤ x → x < w → 0 ≤ y → y < h → f' x y = f x y) : SlabAt W b F w h f' := by
  obtain ⟨c, hc, hl⟩ := H.blk
  exact ⟨H.w1, H.w2, H.h1, H.h2, H.own, H.lt, fun x y a b c d => by rw [e x y a b c d]; exact H.bd x y a b c d, c, hc, hl.congr e⟩
theorem divmod_ne {m i j : Nat} (hm : 0 < m) (hne : j ≠ i) (h1 : j % m = i % m) (h2 : j / m = i / m) : False :=
  hne (by rw [← Nat.div_add_mod j m, ← Nat.div_add_mod i m, h1, h2])
theorem GridRaw.fill {W W' : World} {g : Nat} {F F' : Nat → Prop} {w h : Int} {f : Int → Int → Int} {a n cap : Nat} {ps : Array Value} {s : Nat → Nat} {Fs : Nat → Nat → Prop} (H : GridRaw W g F w h f a n cap ps s Fs)
    {i : Nat} {X0 Y0 X1 Y1 v : Int} (hi : i < n) (x0 : X0 / 16 = (i % acr w : Nat)) (x1 : X1 / 16 = (i % acr w : Nat)) (y0 : Y0 / 16 = (i / acr w : Nat)) (y1 : Y1 / 16 = (i / acr w : Nat))
    (hm : Mod (Fs i) W W') (hsub : ∀ k, F' k → Fs i k ∨ W.heap.size ≤ k)
    (HS : SlabAt W' (s i) F' (side w (i % acr w)) (side h (i / acr w)) (fillF (tileF f w i) (X0 % 16) (Y0 % 16) (X1 % 16) (Y1 % 16) v)) :
    GridRaw W' g (fun k => F k ∨ F' k) w h (fillF f X0 Y0 X1 Y1 v) a n cap ps s (fun j => if j = i then F' else Fs j) := by
  have hs := hm.size
  have hbw := acr_bd H.w1 H.w2
  refine ⟨H.w1, H.w2, H.h1, H.h2, .inl H.own, .inl H.owna, H.ne, ?_, H.n_eq, H.cap_le, ?_, ?_, H.ptr, ?_, ?_, ?_⟩
  · rintro k (hk | hk)
    · exact Nat.lt_of_lt_of_le (H.lt k hk) hs
    · exact HS.lt k hk
  · exact hm.blk H.grid (fun hF => (H.sub i g hi hF).2.1 rfl)
  · exact hm.blk H.row (fun hF => (H.sub i a hi hF).2.2 rfl)
  · intro j hj
    by_cases e : j = i
    · subst e
      simp only [if_pos]
      refine HS.congr ?_
      intro x y a1 a2 a3 a4
      have b1 := (side_bd H.w1 (Nat.mod_lt j (by omega : 0 < acr w))).2
      have hjh : j / acr w < acr h := Nat.div_lt_of_lt_mul (by rw [← H.n_eq]; exact hj)
      have b2 := (side_bd H.h1 hjh).2
      have hiff : inR (X0 % 16) (Y0 % 16) (X1 % 16) (Y1 % 16) x y ↔ inR X0 Y0 X1 Y1 (16 * (j % acr w : Nat) + x) (16 * (j / acr w : Nat) + y) := by
        unfold inR
        omega
      unfold tileF fillF
      by_cases hc : inR (X0 % 16) (Y0 % 16) (X1 % 16) (Y1 % 16) x y
      · rw [if_pos hc, if_pos (hiff.1 hc)]
      · rw [if_neg hc, if_neg (fun z => hc (hiff.2 z))]
    · simp only [if_neg e]
      refine ((H.slab j hj).mod hm (fun k h1 h2 => H.apart j i k hj hi e h1 h2)).congr ?_
      intro x y a1 a2 a3 a4
      have b1 := (side_bd H.w1 (Nat.mod_lt j (by omega : 0 < acr w))).2
      have hjh : j / acr w < acr h := Nat.div_lt_of_lt_mul (by rw [← H.n_eq]; exact hj)
      have b2 := (side_bd H.h1 hjh).2
      unfold tileF fillF
      rw [if_neg]
      unfold inR
      intro hc
      refine divmod_ne (m := acr w) (by omega) e ?_ ?_ <;> omega
  · intro j k hj hk
    by_cases e : j = i
    · subst e
      simp only [if_pos] at hk
      refine ⟨.inr hk, ?_, ?_⟩
      · rcases hsub k hk with h1 | h1
        · exact (H.sub j k hj h1).2.1
        · have := H.lt g H.own
          omega
      · rcases hsub k hk with h1 | h1
        · exact (H.sub j k hj h1).2.2
        · have := H.lt a H.owna
          omega
    · simp only [if_neg e] at hk
      exact ⟨.inl (H.sub j k hj hk).1, (H.sub j k hj hk).2⟩
  · intro j j2 k hj hj2 hne hk hk2
    have old : ∀ j, j < n → Fs j k → k < W.heap.size := fun j hj hk => H.lt k (H.sub j k hj hk).1
    by_cases e : j = i
    · subst e
      have e2 : j2 ≠ j := fun x => hne x.symm
      simp only [if_pos] at hk
      simp only [if_neg e2] at hk2
      rcases hsub k hk with h1 | h1
      · exact H.apart j j2 k hj hj2 hne h1 hk2
      · have := old j2 hj2 hk2
        omega
    · simp only [if_neg e] at hk
      by_cases e2 : j2 = i
      · subst e2
        simp only [if_pos] at hk2
        rcases hsub k hk2 with h1 | h1
        · exact H.apart j j2 k hj hj2 hne hk h1
        · have := old j hj hk
          omega
      · simp only [if_neg e2] at hk2
        exact H.apart j j2 k hj hj2 hne hk hk2

/-- The first j pieces are filled. -/
def stepF (f : Int → Int → Int) (r : R4) (v : Int) : Nat → Int → Int → Int
  | 0 => f
  | j + 1 => fillF (stepF f r v j) (piece r j).x0 (piece r j).y0 (piece r j).x1 (piece r j).y1 v
theorem step_in {f : Int → Int → Int} {r : R4} {v x y : Int} : ∀ {m q : Nat}, q < m → inR (piece r q).x0 (piece r q).y0 (piece r q).x1 (piece r q).y1 x y → stepF f r v m x y = v
  | m + 1, q, hq, h => by
    unfold stepF fillF
    by_cases e : q = m
    · subst e; rw [if_pos h]
    · rw [step_in (by omega : q < m) h, ite_self]
theorem step_out {f : Int → Int → Int} {r : R4} {v x y : Int} : ∀ {m : Nat}, (∀ q, q < m → ¬ inR (piece r q).x0 (piece r q).y0 (piece r q).x1 (piece r q).y1 x y) → stepF f r v m x y = f x y
  | 0, _ => rfl
  | m + 1, h => by
    unfold stepF fillF
    rw [if_neg (h m (by omega))]
    exact step_out (fun q hq => h q (by omega))
theorem step_all {f : Int → Int → Int} {r : R4} {v : Int} : stepF f r v (nx r.x0 r.x1 * nx r.y0 r.y1) = fillF f r.x0 r.y0 r.x1 r.y1 v := by
  funext x y
  unfold fillF
  by_cases h : inR r.x0 r.y0 r.x1 r.y1 x y
  · rw [if_pos h]
    unfold inR at h
    have h1 : (x / 16 - r.x0 / 16).toNat < nx r.x0 r.x1 := by unfold nx; omega
    have h2 : (y / 16 - r.y0 / 16).toNat < nx r.y0 r.y1 := by unfold nx; omega
    refine step_in (q := nx r.x0 r.x1 * (y / 16 - r.y0 / 16).toNat + (x / 16 - r.x0 / 16).toNat) ?_ ?_
    · have := Nat.mul_le_mul_left (nx r.x0 r.x1) (show (y / 16 - r.y0 / 16).toNat + 1 ≤ nx r.y0 r.y1 by omega)
      rw [Nat.mul_add] at this
      omega
    · rw [piece_at r _ _ h1]
      unfold inR tileOf imax imin
      simp only
      refine ⟨?_, ?_, ?_, ?_⟩ <;> split <;> omega
  · rw [if_neg h]
    refine step_out (fun q hq hc => h ?_)
    unfold inR piece tileOf imax imin at hc
    simp only at hc
    obtain ⟨c1, c2, c3, c4⟩ := hc
    unfold inR
    refine ⟨?_, ?_, ?_, ?_⟩ <;> split at c1 <;> split at c2 <;> split at c3 <;> split at c4 <;> omega

/-- A piece of a rectangle within a grid: of which tile. -/
theorem piece_tile {w h : Int} {r : R4} {q : Nat} (hw : 1 ≤ w) (hh : 1 ≤ h) (h0 : 0 ≤ r.x0) (h1 : r.x0 ≤ r.x1) (h2 : r.x1 < w) (h3 : 0 ≤ r.y0) (h4 : r.y0 ≤ r.y1) (h5 : r.y1 < h) (hq : q < nx r.x0 r.x1 * nx r.y0 r.y1) :
    ∃ i : Nat, i < acr w * acr h ∧ (i : Int) = (piece r q).y0 / 16 * ((w + 15) / 16) + (piece r q).x0 / 16 ∧
      (piece r q).x0 / 16 = (i % acr w : Nat) ∧ (piece r q).x1 / 16 = (i % acr w : Nat) ∧ (piece r q).y0 / 16 = (i / acr w : Nat) ∧ (piece r q).y1 / 16 = (i / acr w : Nat) ∧
      0 ≤ (piece r q).x0 ∧ (piece r q).x0 ≤ (piece r q).x1 ∧ (piece r q).x1 < w ∧ 0 ≤ (piece r q).y0 ∧ (piece r q).y0 ≤ (piece r q).y1 ∧ (piece r q).y1 < h ∧
      (piece r q).x1 % 16 < side w (i % acr w) ∧ (piece r q).y1 % 16 < side h (i / acr w) ∧ (piece r q).x0 % 16 ≤ (piece r q).x1 % 16 ∧ (piece r q).y0 % 16 ≤ (piece r q).y1 % 16 := by
  have e1 := acr_eq hw
  have e2 := acr_eq hh
  have p1 : 0 < nx r.x0 r.x1 := by unfold nx; omega
  have q1 : q % nx r.x0 r.x1 < nx r.x0 r.x1 := Nat.mod_lt _ p1
  have q2 : q / nx r.x0 r.x1 < nx r.y0 r.y1 := Nat.div_lt_of_lt_mul hq
  obtain ⟨u1, hu1⟩ : ∃ u, q % nx r.x0 r.x1 = u := ⟨_, rfl⟩
  obtain ⟨u2, hu2⟩ : ∃ u, q / nx r.x0 r.x1 = u := ⟨_, rfl⟩
  rw [hu1] at q1
  rw [hu2] at q2
  obtain ⟨tx, htx⟩ : ∃ tx : Nat, (tx : Int) = r.x0 / 16 + (u1 : Int) := ⟨(r.x0 / 16 + (u1 : Int)).toNat, by omega⟩
  obtain ⟨ty, hty⟩ : ∃ ty : Nat, (ty : Int) = r.y0 / 16 + (u2 : Int) := ⟨(r.y0 / 16 + (u2 : Int)).toNat, by omega⟩
  have ep : piece r q = tileOf r tx ty := by rw [htx, hty, ← hu1, ← hu2]; rfl
  clear hu1 hu2
  rw [ep]
  have n1 : (tx : Int) ≤ r.x1 / 16 := by unfold nx at q1; omega
  have n2 : (ty : Int) ≤ r.y1 / 16 := by unfold nx at q2; omega
  have n3 : r.x0 / 16 ≤ (tx : Int) := by omega
  have n4 : r.y0 / 16 ≤ (ty : Int) := by omega
  have l1 : tx < acr w := by omega
  have l2 : ty < acr h := by omega
  have hm : (ty * acr w + tx) % acr w = tx := by rw [Nat.mul_comm, Nat.mul_add_mod, Nat.mod_eq_of_lt l1]
  have hd : (ty * acr w + tx) / acr w = ty := by rw [Nat.mul_comm, Nat.mul_add_div (by omega), Nat.div_eq_of_lt l1, Nat.add_zero]
  obtain ⟨X0, hX0⟩ : ∃ X0, X0 = imax (tx * 16) r.x0 := ⟨_, rfl⟩
  obtain ⟨X1, hX1⟩ : ∃ X1, X1 = imin (tx * 16 + 16 - 1) r.x1 := ⟨_, rfl⟩
  obtain ⟨Y0, hY0⟩ : ∃ Y0, Y0 = imax (ty * 16) r.y0 := ⟨_, rfl⟩
  obtain ⟨Y1, hY1⟩ : ∃ Y1, Y1 = imin (ty * 16 + 16 - 1) r.y1 := ⟨_, rfl⟩
  have et : tileOf r tx ty = ⟨X0, Y0, X1, Y1⟩ := by rw [hX0, hX1, hY0, hY1]; rfl
  rw [et]
  dsimp only
  have fX0 : X0 / 16 = tx ∧ r.x0 ≤ X0 ∧ X0 ≤ r.x1 := by rw [hX0]; unfold imax; split <;> omega
  have fX1 : X1 / 16 = tx ∧ X0 ≤ X1 ∧ X1 ≤ r.x1 := by rw [hX1, hX0]; unfold imax imin; split <;> split <;> omega
  have fY0 : Y0 / 16 = ty ∧ r.y0 ≤ Y0 ∧ Y0 ≤ r.y1 := by rw [hY0]; unfold imax; split <;> omega
  have fY1 : Y1 / 16 = ty ∧ Y0 ≤ Y1 ∧ Y1 ≤ r.y1 := by rw [hY1, hY0]; unfold imax imin; split <;> split <;> omega
  clear hX0 hX1 hY0 hY1 et ep
  refine ⟨ty * acr w + tx, ?_, ?_, ?_, ?_, ?_, ?_, by omega, by omega, by omega, by omega, by omega, by omega, ?_, ?_, by omega, by omega⟩
  · have := Nat.mul_le_mul_right (acr w) (show ty + 1 ≤ acr h by omega)
    rw [Nat.add_mul] at this
    rw [Nat.mul_comm (acr w)]
    omega
  · rw [fX0.1, fY0.1, ← e1]
    push_cast
    rfl
  · rw [hm]; exact fX0.1
  · rw [hm]; exact fX1.1
  · rw [hd]; exact fY0.1
  · rw [hd]; exact fY1.1
  · rw [hm]; unfold side imin; split <;> omega
  · rw [hd]; unfold side imin; split <;> omega

theorem pcells_get (r : R4) : ∀ (n q c : Nat), q < n → c < 4 → (pcells r n)[q * 4 + c]? = (piece r q).cells[c]?
  | n + 1, q, c, hq, hc => by
    rw [pcells_succ]
    by_cases e : q = n
    · subst e
      rw [List.getElem?_append_right (by rw [pcells_length]; omega), pcells_length]
      congr 1
      omega
    · rw [List.getElem?_append_left (by rw [pcells_length]; omega)]
      exact pcells_get r n q c (by omega) hc
/-- What Pieces answers, as a row. -/
def PieceRow (W : World) (r : R4) (m : Nat) (v : Value) (W' : World) : Prop :=
  ∃ B cap cs, v = .slice (some ⟨B, 0, none⟩) m cap ∧ m ≤ cap ∧ W.heap.size ≤ B ∧ W'.heap[B]? = some (.cells cs 45 (0, 0)) ∧ ∀ q c, q < m → c < 4 → cs[q * 4 + c]? = (piece r q).cells[c]?
theorem PieceRow.of_own {W W' : World} {r : R4} {m : Nat} {v : Value} (hm : 0 < m) (h : W'.ownsRow W.heap.size 45 4 v m (pcells r m)) : PieceRow W r m v W' := by
  obtain ⟨_, ⟨_, h2⟩ | ⟨B, cap, cs, h1, h2, h3, h4, h5, h6, h7⟩⟩ := h
  · omega
  · refine ⟨B, cap, cs, h1, h4, h2, h3, ?_⟩
    intro q c hq hc
    rw [← pcells_get r m q c hq hc, ← h7, List.getElem?_take, if_pos (by omega)]
    simp
end Go.Proofs.Ytgofkgmhpnkchaa

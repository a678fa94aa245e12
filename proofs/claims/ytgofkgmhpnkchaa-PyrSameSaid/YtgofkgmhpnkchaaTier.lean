/- tier.half, Levels, Size, of a right size. -/
import Derived.Test.YtgofkgmhpnkchaaLen64
import Derived.Test.YtgofkgmhpnkchaaRect
import Derived.OwnWalk
set_option linter.unusedVariables false
set_option linter.unusedSimpArgs false
namespace Go.Proofs.Ytgofkgmhpnkchaa
open Go.RowKit

set_option maxHeartbeats 2000000 in
theorem half_ok (n : Int) (k : Nat) (W : World) (n1 : 1 ≤ n) (n2 : n ≤ 1024) (hk : k ≤ 10) :
    Calls Try.prog 87 #[.int .i64 n, .int .i64 k] W fun e W' => e = .returned (.int .i64 (lw n k)) ∧ W = W' := by
  go_enter Try.func87, Try.ntmps87
  go_wp2_with fail
  go_ret
  refine ⟨ret_int ?_, rfl⟩
  have hb := lw_bd n1 k
  unfold lw at hb ⊢
  exact wrap64_id (by omega) (by omega)

set_option maxHeartbeats 2000000 in
theorem levels_ok (w h : Int) (W : World) (w1 : 1 ≤ w) (w2 : w ≤ 1024) (h1 : 1 ≤ h) (h2 : h ≤ 1024) :
    Calls Try.prog 45 #[.int .i64 w, .int .i64 h] W fun e W' => e = .returned (.tuple #[.int .i64 (levs w h), .int .i64 0]) ∧ Below W.heap.size W W' := by
  obtain ⟨m, hm⟩ : ∃ m : Nat, imax w h - 1 = m := ⟨(imax w h - 1).toNat, by unfold imax; split <;> omega⟩
  have hm2 : m < 1024 := by unfold imax at hm; split at hm <;> omega
  have hmax : imax w h = (m : Int) + 1 := by omega
  have hlev : levs w h = bl m + 1 := by unfold levs; rw [hm]; rfl
  have HLV := Lib.hid hlev
  have hbl := levs_bd w1 w2 h1 h2
  have hbl2 : bl m ≤ 10 := by omega
  clear hm hlev hbl
  go_enter Try.func45, Try.ntmps45
  go_wp2_with fail
  refine (within_ok 0 0 0 0 w h _ w1 w2 h1 h2 (by omega) (by omega) (by omega) (by omega) (by omega) (by omega)).mono ?_
  rintro e w2' ⟨rfl, hb⟩
  go_wp2_with fail
  refine (len64_ok m hm2 _).mono ?_
  rintro e w3 ⟨rfl, rfl⟩
  go_wp2_with fail
  go_ret2
  exact ⟨by rw [HLV.out]; exact ret2_int (by push_cast; omega), hb⟩

set_option maxHeartbeats 2000000 in
theorem tier_size_ok (w h : Int) (k : Nat) (W : World) (w1 : 1 ≤ w) (w2 : w ≤ 1024) (h1 : 1 ≤ h) (h2 : h ≤ 1024) (hk : k < levs w h) :
    Calls Try.prog 46 #[.int .i64 w, .int .i64 h, .int .i64 k] W fun e W' => e = .returned (.tuple #[.int .i64 (lw w k), .int .i64 (lw h k), .int .i64 0]) ∧ Below W.heap.size W W' := by
  have hL := levs_bd w1 w2 h1 h2
  have hk10 : k ≤ 10 := by omega
  go_enter Try.func46, Try.ntmps46
  go_wp2_with fail
  refine (levels_ok w h _ w1 w2 h1 h2).mono ?_
  rintro e w3 ⟨rfl, hb⟩
  have d1 : decide (levs w h ≤ k) = false := decide_eq_false (by omega)
  go_wp2_with (go_at_call 87; refine (half_ok _ k _ (by omega) (by omega) hk10).mono ?_; rintro e w' ⟨rfl, rfl⟩)
  refine bodyPost_ret (results_tmp3 rfl _ _ _) rfl ?_
  exact ⟨rfl, hb⟩
end Go.Proofs.Ytgofkgmhpnkchaa

/- down.way; tier.Size of a level that isn't there. -/
import Derived.Test.YtgofkgmhpnkchaaTierSpan
import Derived.Test.YtgofkgmhpnkchaaWay
set_option linter.unusedVariables false
set_option linter.unusedSimpArgs false
namespace Go.Proofs.Ytgofkgmhpnkchaa
open Go.RowKit

def wayL (how : Int) (g : Nat → Int) (n : Nat) : Int := if how = 0 then loL g n else if how = 1 then hiL g n else meanL g n
theorem wayL_bd {how : Int} {g : Nat → Int} {n : Nat} (h : MayL g n) (hn : 1 ≤ n) : -2147483648 ≤ wayL how g n ∧ wayL how g n ≤ 2147483647 := by
  obtain ⟨h1, ⟨i, hi, ei⟩, ⟨j, hj, ej⟩⟩ := rngL_lohi g n hn
  have b1 := h i hi
  have b2 := h j hj
  have b3 := meanL_bd h hn
  unfold wayL
  split
  · omega
  · split <;> omega
theorem way0_ok (W : World) : Calls Try.prog 59 #[.int .i64 0] W fun e W' => e = .returned (.func (.func 98) #[] #[]) ∧ W = W' := by
  go_enter Try.func59, Try.ntmps59
  go_wp2_with fail
  go_ret
  exact ⟨rfl, rfl⟩
theorem way1_ok (W : World) : Calls Try.prog 59 #[.int .i64 1] W fun e W' => e = .returned (.func (.func 99) #[] #[]) ∧ W = W' := by
  go_enter Try.func59, Try.ntmps59
  go_wp2_with fail
  go_ret
  exact ⟨rfl, rfl⟩
theorem way2_ok (W : World) : Calls Try.prog 59 #[.int .i64 2] W fun e W' => e = .returned (.func (.func 100) #[] #[]) ∧ W = W' := by
  go_enter Try.func59, Try.ntmps59
  go_wp2_with fail
  go_ret
  exact ⟨rfl, rfl⟩
theorem way_none (how : Int) (W : World) (h : ¬ (0 ≤ how ∧ how ≤ 2)) : Calls Try.prog 59 #[.int .i64 how] W fun e W' => e = .returned .nilFunc ∧ W = W' := by
  have t0 : (how == 0) = false := by simp; omega
  have t1 : (how == 1) = false := by simp; omega
  have t2 : (how == 2) = false := by simp; omega
  go_enter Try.func59, Try.ntmps59
  go_wp2_with fail
  go_ret
  exact ⟨rfl, rfl⟩
set_option maxHeartbeats 2000000 in
theorem tier_size_bad (w h k : Int) (W : World) (w1 : 1 ≤ w) (w2 : w ≤ 1024) (h1 : 1 ≤ h) (h2 : h ≤ 1024) (hk : ¬ (0 ≤ k ∧ k < (levs w h : Int))) :
    Calls Try.prog 46 #[.int .i64 w, .int .i64 h, .int .i64 k] W fun e W' => e = .returned (.tuple #[.int .i64 0, .int .i64 0, .int .i64 11]) ∧ Below W.heap.size W W' := by
  have hL := levs_bd w1 w2 h1 h2
  obtain ⟨L, hLe⟩ : ∃ L, levs w h = L := ⟨_, rfl⟩
  have HL := Lib.hid hLe
  rw [hLe] at hk hL
  clear hLe
  go_enter Try.func46, Try.ntmps46
  go_wp2_with fail
  refine (levels_ok w h _ w1 w2 h1 h2).mono ?_
  rw [HL.out]
  rintro e w3 ⟨rfl, hb⟩
  by_cases hk0 : k < 0
  · have d0 := decide_eq_true hk0
    go_wp2_with fail
    refine bodyPost_ret (results_tmp3 rfl _ _ _) rfl ?_
    exact ⟨rfl, hb⟩
  · have d0 := decide_eq_false hk0
    have d1 : decide ((L : Int) ≤ k) = true := decide_eq_true (by omega)
    go_wp2_with fail
    refine bodyPost_ret (results_tmp3 rfl _ _ _) rfl ?_
    exact ⟨rfl, hb⟩
end Go.Proofs.Ytgofkgmhpnkchaa

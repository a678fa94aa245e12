/- hachureref24: Floor, left, Cmp. -/
import Derived.Test.YtcomnpmkedabeaaDoorFloor
import Derived.Deep.LoopGhost
set_option linter.unusedVariables false
set_option linter.unusedSimpArgs false
namespace Go.Proofs.YtcomnpmkedabeaaDoor
open Go.RowKit

set_option maxHeartbeats 1000000 in
theorem ref24_floor_ok (up on : Int) (W : World) (h1 : 1 ≤ on) (h2 : -1099511627776 ≤ up) (h3 : up ≤ 1099511627776) :
    Calls Tryd.prog 37 #[.int .i64 up, .int .i64 on] W fun e W' => e = .returned (.int .i64 (up / on)) ∧ W = W' := by
  have e := floor_tdiv up on (by omega)
  have e1 := Int.mul_tdiv_add_tmod up on
  have b1 := Int.tmod_lt_of_pos up (show 0 < on by omega)
  have hz : (on == 0) = false := by simp; omega
  have hq : up.tdiv on ≤ 1099511627776 ∧ -1099511627776 ≤ up.tdiv on := by
    have a1 : (up.tdiv on).natAbs = up.natAbs / on.natAbs := Int.natAbs_tdiv up on
    have := Nat.div_le_self up.natAbs on.natAbs
    omega
  have hd1 : wrap64 (up.tdiv on) = up.tdiv on := wrap64_id (by omega) (by omega)
  have hd2 : wrap64 (up.tdiv on - 1) = up.tdiv on - 1 := wrap64_id (by omega) (by omega)
  have HE := Lib.hid e
  clear e e1
  by_cases hneg : up.tmod on < 0
  · have hnd := decide_eq_true hneg
    go_enter Tryd.func37, Tryd.ntmps37
    go_wp2_with fail
    go_ret
    refine ⟨ret_int ?_, rfl⟩
    have := HE.out
    rw [if_pos hneg] at this
    first | exact this | (rw [hd1, hd2]; exact this) | (rw [hd2]; exact this)
  · have hnd := decide_eq_false hneg
    go_enter Tryd.func37, Tryd.ntmps37
    go_wp2_with fail
    go_ret
    refine ⟨ret_int ?_, rfl⟩
    have := HE.out
    rw [if_neg (by omega)] at this
    first | exact this | (rw [hd1]; exact this)

set_option maxHeartbeats 1000000 in
theorem ref24_left_ok (up on : Int) (W : World) (h1 : 1 ≤ on) (h1' : on ≤ 1024) (h2 : -1099511627776 ≤ up) (h3 : up ≤ 1099511627776) :
    Calls Tryd.prog 38 #[.int .i64 up, .int .i64 on] W fun e W' => e = .returned (.int .i64 (up % on)) ∧ W = W' := by
  have e := left_tmod up on (by omega)
  have b1 := Int.tmod_lt_of_pos up (show 0 < on by omega)
  have b2 : -on < up.tmod on := by
    have := Int.tmod_lt_of_pos (-up) (show 0 < on by omega)
    rw [Int.neg_tmod] at this
    omega
  have hz : (on == 0) = false := by simp; omega
  have HE := Lib.hid e
  clear e
  by_cases hneg : up.tmod on < 0
  · have hnd := decide_eq_true hneg
    go_enter Tryd.func38, Tryd.ntmps38
    go_wp2_with fail
    go_ret
    refine ⟨ret_int ?_, rfl⟩
    have := HE.out
    rw [if_pos hneg] at this
    exact this
  · have hnd := decide_eq_false hneg
    go_enter Tryd.func38, Tryd.ntmps38
    go_wp2_with fail
    go_ret
    refine ⟨ret_int ?_, rfl⟩
    have := HE.out
    rw [if_neg (by omega)] at this
    exact this

/-- A round's numbers. -/
def CmpInv (q k : Nat) (a b c d : Int) : Prop :=
  1 ≤ b ∧ b ≤ 1024 ∧ 1 ≤ d ∧ d ≤ 1024 ∧ -1099511627776 ≤ a ∧ a ≤ 1099511627776 ∧ -1099511627776 ≤ c ∧ c ≤ 1099511627776 ∧ k + q = 21 ∧ (k = 0 ∨ (b < a ∧ a * b ≤ 2 ^ q))
theorem CmpInv.next {q k : Nat} {a b c d : Int} (H : CmpInv q k a b c d) (hr : a % b ≠ 0) (hs : c % d ≠ 0) : ∃ q', q = q' + 1 ∧ CmpInv q' (k + 1) b (a % b) d (c % d) := by
  obtain ⟨h1, h2, h3, h4, h5, h6, h7, h8, h9, h10⟩ := H
  have r0 := Int.emod_nonneg a (show b ≠ 0 by omega)
  have r1 := Int.emod_lt_of_pos a (show 0 < b by omega)
  have s0 := Int.emod_nonneg c (show d ≠ 0 by omega)
  have s1 := Int.emod_lt_of_pos c (show 0 < d by omega)
  rcases h10 with rfl | ⟨hab, hp⟩
  · refine ⟨20, by omega, by omega, by omega, by omega, by omega, by omega, by omega, by omega, by omega, by omega, .inr ⟨by omega, ?_⟩⟩
    have := (mul_bd (a := b) (b := a % b) (A := 1024) (B := 1024) (by omega) (by omega) r0 (by omega)).2
    omega
  · cases q with
    | zero =>
      exfalso
      have := Int.mul_le_mul (show 2 ≤ a by omega) h1 (by omega) (by omega)
      simp at hp
      omega
    | succ q' =>
      refine ⟨q', rfl, by omega, by omega, by omega, by omega, by omega, by omega, by omega, by omega, by omega, .inr ⟨by omega, ?_⟩⟩
      exact euclid_half (by omega) hab (by rw [Int.pow_succ] at hp; omega)

set_option maxHeartbeats 4000000 in
set_option maxRecDepth 100000 in
theorem ref24_cmp_ok (a b c d : Int) (W : World) (hb : 1 ≤ b) (hb2 : b ≤ 1024) (hd : 1 ≤ d) (hd2 : d ≤ 1024) (ha1 : -1099511627776 ≤ a) (ha2 : a ≤ 1099511627776) (hc1 : -1099511627776 ≤ c) (hc2 : c ≤ 1099511627776) :
    Calls Tryd.prog 23 #[.int .i64 a, .int .i64 b, .int .i64 c, .int .i64 d] W fun e W' => e = .returned (.int .i64 (cmpS a b c d)) ∧ W = W' := by
  obtain ⟨S, hS⟩ : ∃ S, cmpS a b c d = S := ⟨_, rfl⟩
  rw [hS]
  go_enter Tryd.func23, Tryd.ntmps23
  go_wp2_with fail
  go_loopg [0, 1, 2, 3, 9, 10] 21 (fun q v0 v1 v2 v3 v9 v10 wr => ∃ (a b c d sg : Int) (k : Nat), v0 = .int .i64 a ∧ v1 = .int .i64 b ∧ v2 = .int .i64 c ∧ v3 = .int .i64 d ∧ v9 = .int .i64 sg ∧ v10 = .int .i64 (k : Int) ∧ Hid (CmpInv q k a b c d ∧ (sg = 1 ∨ sg = -1) ∧ sg * cmpS a b c d = S) ∧ W = wr)
  case atStart => exact ⟨a, b, c, d, 1, 0, rfl, rfl, rfl, rfl, rfl, rfl, ⟨⟨hb, hb2, hd, hd2, ha1, ha2, hc1, hc2, by omega, .inl rfl⟩, .inl rfl, by rw [hS]; omega⟩, rfl⟩
  case round =>
    clear hb hb2 hd hd2 ha1 ha2 hc1 hc2 hS
    clear a b c d
    obtain ⟨a, b, c, d, sg, k, rfl, rfl, rfl, rfl, rfl, rfl, HH, rfl⟩ := hrel
    obtain ⟨HI, hsg, hsum⟩ := HH.out
    obtain ⟨h1, h2, h3, h4, h5, h6, h7, h8, h9, h10⟩ := HI
    have HJ : Hid (CmpInv gk k a b c d) := ⟨h1, h2, h3, h4, h5, h6, h7, h8, h9, h10⟩
    clear h10 HH
    have hk : decide ((k : Int) < 200) = true := decide_eq_true (by omega)
    have hk2 : k ≤ 21 := by omega
    have HS := Lib.hid hsum
    clear hsum
    have wsg : wrap64 (0 - sg) = 0 - sg := wrap64_id (by omega) (by omega)
    by_cases p1 : a / b < c / d
    · have t1 := decide_eq_true p1
      go_wp2_with
        (first | (go_at_call 37; refine (ref24_floor_ok _ _ _ (by assumption) (by assumption) (by assumption)).mono ?_; rintro e w' ⟨rfl, rfl⟩) | (go_at_call 38; refine (ref24_left_ok _ _ _ (by assumption) (by assumption) (by assumption) (by assumption)).mono ?_; rintro e w' ⟨rfl, rfl⟩))
      go_ret
      refine ⟨ret_int ?_, rfl⟩
      have h := HS.out
      rw [cmp_lt (by omega) (by omega) p1] at h
      omega
    have t1 := decide_eq_false p1
    by_cases p2 : c / d < a / b
    · have t2 := decide_eq_true p2
      go_wp2_with
        (first | (go_at_call 37; refine (ref24_floor_ok _ _ _ (by assumption) (by assumption) (by assumption)).mono ?_; rintro e w' ⟨rfl, rfl⟩) | (go_at_call 38; refine (ref24_left_ok _ _ _ (by assumption) (by assumption) (by assumption) (by assumption)).mono ?_; rintro e w' ⟨rfl, rfl⟩))
      go_ret
      refine ⟨ret_int ?_, rfl⟩
      have h := HS.out
      rw [cmp_gt (by omega) (by omega) p2] at h
      omega
    have t2 := decide_eq_false p2
    have pe : a / b = c / d := by omega
    have HP := Lib.hid pe
    clear pe
    have r0 := Int.emod_nonneg a (show b ≠ 0 by omega)
    have r1 := Int.emod_lt_of_pos a (show 0 < b by omega)
    have s0 := Int.emod_nonneg c (show d ≠ 0 by omega)
    have s1 := Int.emod_lt_of_pos c (show 0 < d by omega)
    by_cases q1 : a % b = 0
    · have u1 : (a % b == 0) = true := by simp [q1]
      have hmul : 0 ≤ c % d * b := Int.mul_nonneg s0 (by omega)
      by_cases q2 : c % d = 0
      · have u2 : (c % d == 0) = true := by simp [q2]
        have HQ := Lib.hid (And.intro q1 q2)
        clear q1 q2 r0 r1 s0 s1 hmul
        go_wp2_with
          (first | (go_at_call 37; refine (ref24_floor_ok _ _ _ (by assumption) (by assumption) (by assumption)).mono ?_; rintro e w' ⟨rfl, rfl⟩) | (go_at_call 38; refine (ref24_left_ok _ _ _ (by assumption) (by assumption) (by assumption) (by assumption)).mono ?_; rintro e w' ⟨rfl, rfl⟩))
        go_ret
        refine ⟨ret_int ?_, rfl⟩
        have h := HS.out
        rw [cmp_eq HP.out, HQ.out.1, HQ.out.2, Int.zero_mul, Int.zero_mul] at h
        have : sgn (0 - 0) = 0 := by decide
        rw [this] at h
        omega
      · have u2 : (c % d == 0) = false := by simp [q2]
        have HQ := Lib.hid (And.intro q1 q2)
        have hpos : 0 < c % d * b := Int.mul_pos (by omega) (by omega)
        clear q1 q2 r0 r1 s0 s1 hmul
        have HPO := Lib.hid hpos
        clear hpos
        go_wp2_with
          (first | (go_at_call 37; refine (ref24_floor_ok _ _ _ (by assumption) (by assumption) (by assumption)).mono ?_; rintro e w' ⟨rfl, rfl⟩) | (go_at_call 38; refine (ref24_left_ok _ _ _ (by assumption) (by assumption) (by assumption) (by assumption)).mono ?_; rintro e w' ⟨rfl, rfl⟩))
        go_ret
        refine ⟨ret_int ?_, rfl⟩
        have h := HS.out
        rw [cmp_eq HP.out, HQ.out.1, Int.zero_mul] at h
        have : sgn (0 - c % d * b) = -1 := by unfold sgn; rw [if_pos (by have := HPO.out; omega)]
        rw [this] at h
        omega
    · have u1 : (a % b == 0) = false := by simp [q1]
      by_cases q2 : c % d = 0
      · have u2 : (c % d == 0) = true := by simp [q2]
        have HQ := Lib.hid (And.intro q1 q2)
        have HPO := Lib.hid (Int.mul_pos (a := a % b) (b := d) (by omega) (by omega))
        clear q1 q2 r0 r1 s0 s1
        go_wp2_with
          (first | (go_at_call 37; refine (ref24_floor_ok _ _ _ (by assumption) (by assumption) (by assumption)).mono ?_; rintro e w' ⟨rfl, rfl⟩) | (go_at_call 38; refine (ref24_left_ok _ _ _ (by assumption) (by assumption) (by assumption) (by assumption)).mono ?_; rintro e w' ⟨rfl, rfl⟩))
        go_ret
        refine ⟨ret_int ?_, rfl⟩
        have h := HS.out
        rw [cmp_eq HP.out, HQ.out.2, Int.zero_mul] at h
        have : sgn (a % b * d - 0) = 1 := by unfold sgn; rw [if_neg (by have := HPO.out; omega), if_pos (by have := HPO.out; omega)]
        rw [this] at h
        omega
      · have u2 : (c % d == 0) = false := by simp [q2]
        obtain ⟨q', hq', HN⟩ := HJ.out.next q1 q2
        have HNN := Lib.hid HN
        clear HN q1 q2 r0 r1 s0 s1
        go_wp2_with
          (first | (go_at_call 37; refine (ref24_floor_ok _ _ _ (by assumption) (by assumption) (by assumption)).mono ?_; rintro e w' ⟨rfl, rfl⟩) | (go_at_call 38; refine (ref24_left_ok _ _ _ (by assumption) (by assumption) (by assumption) (by assumption)).mono ?_; rintro e w' ⟨rfl, rfl⟩))
        go_roundg q'
        case measure => omega
        case rel =>
          refine ⟨b, a % b, d, c % d, -sg, k + 1, rfl, rfl, rfl, rfl, rfl, congrArg (Value.int .i64) (by push_cast; omega), ⟨HNN.out, by omega, ?_⟩, rfl⟩
          have h := HS.out
          rw [cmp_turn HP.out] at h
          rw [← h]
          rcases hsg with rfl | rfl <;> omega
end Go.Proofs.YtcomnpmkedabeaaDoor

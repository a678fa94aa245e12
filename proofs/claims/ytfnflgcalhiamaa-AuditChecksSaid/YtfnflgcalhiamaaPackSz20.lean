/- Texts of this claim, joined: Ref38, ChecksP, Is09. -/
import Derived.Test.YtfnflgcalhiamaaPackSz1
import Derived.Test.YtfnflgcalhiamaaPackSz12
import Derived.Test.YtfnflgcalhiamaaPackSz15
import Derived.Test.YtfnflgcalhiamaaPackSz16
import Derived.Test.YtfnflgcalhiamaaPackSz19
/- hachureref38.Check: the same list, by definition. -/
set_option linter.unusedVariables false
set_option linter.unusedSimpArgs false
namespace Go.Proofs.Ytfnflgcalhiamaa
open Go.RowKit

/-- The document's list. -/
def RefOut (w h : Nat) (u1 u2 u3 : Nat → Int) (W : World) (e : Ending) (W' : World) : Prop :=
  ∃ v base, e = .returned v ∧ W.heap.size ≤ base ∧ W'.ownsRow base 55 3 v (cnt (fun i => u2 i != u1 i) (w * h) + cnt (fun i => u3 i != u1 i) (w * h)) (fnd 1 (fun i => u2 i != u1 i) w (w * h) ++ fnd 2 (fun i => u3 i != u1 i) w (w * h)) ∧ Below W.heap.size W W'
theorem fnd_int {kind : Int} {d : Nat → Bool} {w n : Nat} (h : d n = true) : fnd kind d w (n + 1) = fnd kind d w n ++ [.int .i64 kind, .int .i64 ((n : Int) % (w : Int)), .int .i64 ((n : Int) / (w : Int))] := by
  rw [fnd_yes h]
  push_cast
  rfl

set_option maxHeartbeats 4000000 in
set_option maxRecDepth 100000 in
theorem ref38_ok (w h c1 c2 c3 : Nat) (ad1 ad2 ad3 : Addr) (u1 u2 u3 : Nat → Int) (W : World) (d1 : 1 ≤ w) (d2 : w ≤ 1024) (d3 : 1 ≤ h) (d4 : h ≤ 1024) (R1 : RowAt W ad1 (w * h) u1) (R2 : RowAt W ad2 (w * h) u2) (R3 : RowAt W ad3 (w * h) u3) :
    Calls Try.prog 10 #[.agg #[.int .i64 (w : Int), .int .i64 (h : Int), .slice (some ad1) (w * h) c1], .agg #[.int .i64 (w : Int), .int .i64 (h : Int), .slice (some ad2) (w * h) c2], .agg #[.int .i64 (w : Int), .int .i64 (h : Int), .slice (some ad3) (w * h) c3]] W (RefOut w h u1 u2 u3 W) := by
  have hMb : w * h ≤ 1048576 := Nat.mul_le_mul (show w ≤ 1024 by omega) (show h ≤ 1024 by omega)
  have wm : wrap64 ((w : Int) * (h : Int)) = ((w * h : Nat) : Int) := by rw [← Int.natCast_mul, wrap64_id (by omega) (by omega)]
  obtain ⟨M, hM⟩ : ∃ M, w * h = M := ⟨_, rfl⟩
  rw [hM] at R1 R2 R3 hMb wm ⊢
  have HWM := Lib.hid wm
  have HM := Lib.hid hM
  clear wm hM
  go_enter Try.func10, Try.ntmps10
  go_wp2_with fail
  have n_B := (below_alloc (below_alloc (below_alloc (below_alloc1 W (.cells #[.int .i64 (w : Int), .int .i64 (h : Int), .slice (some ad1) M c1] 25)) (.cells #[.int .i64 (w : Int), .int .i64 (h : Int), .slice (some ad2) M c2] 25)) (.cells #[.int .i64 (w : Int), .int .i64 (h : Int), .slice (some ad3) M c3] 25)) (.cells #[] 55))
  have n_0 : ((((W.alloc (.cells #[.int .i64 (w : Int), .int .i64 (h : Int), .slice (some ad1) M c1] 25)).alloc (.cells #[.int .i64 (w : Int), .int .i64 (h : Int), .slice (some ad2) M c2] 25)).alloc (.cells #[.int .i64 (w : Int), .int .i64 (h : Int), .slice (some ad3) M c3] 25)).alloc (.cells #[] 55)).heap[W.heap.size]? = some (.cells #[.int .i64 (w : Int), .int .i64 (h : Int), .slice (some ad1) M c1] 25) := below_blk (below_alloc (below_alloc (below_alloc1 (W.alloc (.cells #[.int .i64 (w : Int), .int .i64 (h : Int), .slice (some ad1) M c1] 25)) (.cells #[.int .i64 (w : Int), .int .i64 (h : Int), .slice (some ad2) M c2] 25)) (.cells #[.int .i64 (w : Int), .int .i64 (h : Int), .slice (some ad3) M c3] 25)) (.cells #[] 55)) (blk_new_at (W := W) (o := .cells #[.int .i64 (w : Int), .int .i64 (h : Int), .slice (some ad1) M c1] 25) (by simp))
  have n_1 : ((((W.alloc (.cells #[.int .i64 (w : Int), .int .i64 (h : Int), .slice (some ad1) M c1] 25)).alloc (.cells #[.int .i64 (w : Int), .int .i64 (h : Int), .slice (some ad2) M c2] 25)).alloc (.cells #[.int .i64 (w : Int), .int .i64 (h : Int), .slice (some ad3) M c3] 25)).alloc (.cells #[] 55)).heap[W.heap.size + 1]? = some (.cells #[.int .i64 (w : Int), .int .i64 (h : Int), .slice (some ad2) M c2] 25) := below_blk (below_alloc (below_alloc1 ((W.alloc (.cells #[.int .i64 (w : Int), .int .i64 (h : Int), .slice (some ad1) M c1] 25)).alloc (.cells #[.int .i64 (w : Int), .int .i64 (h : Int), .slice (some ad2) M c2] 25)) (.cells #[.int .i64 (w : Int), .int .i64 (h : Int), .slice (some ad3) M c3] 25)) (.cells #[] 55)) (blk_new_at (W := (W.alloc (.cells #[.int .i64 (w : Int), .int .i64 (h : Int), .slice (some ad1) M c1] 25))) (o := .cells #[.int .i64 (w : Int), .int .i64 (h : Int), .slice (some ad2) M c2] 25) (by simp))
  have n_2 : ((((W.alloc (.cells #[.int .i64 (w : Int), .int .i64 (h : Int), .slice (some ad1) M c1] 25)).alloc (.cells #[.int .i64 (w : Int), .int .i64 (h : Int), .slice (some ad2) M c2] 25)).alloc (.cells #[.int .i64 (w : Int), .int .i64 (h : Int), .slice (some ad3) M c3] 25)).alloc (.cells #[] 55)).heap[W.heap.size + 1 + 1]? = some (.cells #[.int .i64 (w : Int), .int .i64 (h : Int), .slice (some ad3) M c3] 25) := below_blk (below_alloc1 (((W.alloc (.cells #[.int .i64 (w : Int), .int .i64 (h : Int), .slice (some ad1) M c1] 25)).alloc (.cells #[.int .i64 (w : Int), .int .i64 (h : Int), .slice (some ad2) M c2] 25)).alloc (.cells #[.int .i64 (w : Int), .int .i64 (h : Int), .slice (some ad3) M c3] 25)) (.cells #[] 55)) (blk_new_at (W := ((W.alloc (.cells #[.int .i64 (w : Int), .int .i64 (h : Int), .slice (some ad1) M c1] 25)).alloc (.cells #[.int .i64 (w : Int), .int .i64 (h : Int), .slice (some ad2) M c2] 25))) (o := .cells #[.int .i64 (w : Int), .int .i64 (h : Int), .slice (some ad3) M c3] 25) (by simp))
  have n_3 : ((((W.alloc (.cells #[.int .i64 (w : Int), .int .i64 (h : Int), .slice (some ad1) M c1] 25)).alloc (.cells #[.int .i64 (w : Int), .int .i64 (h : Int), .slice (some ad2) M c2] 25)).alloc (.cells #[.int .i64 (w : Int), .int .i64 (h : Int), .slice (some ad3) M c3] 25)).alloc (.cells #[] 55)).heap[W.heap.size + 1 + 1 + 1]? = some (.cells #[] 55) := (blk_new_at (W := (((W.alloc (.cells #[.int .i64 (w : Int), .int .i64 (h : Int), .slice (some ad1) M c1] 25)).alloc (.cells #[.int .i64 (w : Int), .int .i64 (h : Int), .slice (some ad2) M c2] 25)).alloc (.cells #[.int .i64 (w : Int), .int .i64 (h : Int), .slice (some ad3) M c3] 25))) (o := .cells #[] 55) (by simp))
  obtain ⟨Wa, hWa⟩ : ∃ Wa, ((((W.alloc (.cells #[.int .i64 (w : Int), .int .i64 (h : Int), .slice (some ad1) M c1] 25)).alloc (.cells #[.int .i64 (w : Int), .int .i64 (h : Int), .slice (some ad2) M c2] 25)).alloc (.cells #[.int .i64 (w : Int), .int .i64 (h : Int), .slice (some ad3) M c3] 25)).alloc (.cells #[] 55)) = Wa := ⟨_, rfl⟩
  rw [hWa] at n_0 n_1 n_2 n_3 n_B ⊢
  clear hWa
  obtain ⟨B, hB0, hB1⟩ : ∃ B, W.heap.size + 2 < B ∧ B ≤ W.heap.size + 3 := ⟨W.heap.size + 3, Nat.lt_succ_self _, Nat.le_refl _⟩
  have hWaB : W.heap.size + 3 < Wa.heap.size := blk_lt n_3
  have HO0 : Hid (Wa.ownsRow B 55 3 (.slice (some ⟨W.heap.size + 3, 0, none⟩) 0 0) 0 []) := ⟨by simp, .inr ⟨W.heap.size + 3, 0, #[], rfl, by omega, n_3, Nat.le_refl _, by simp [maxLen], by simp, by simp⟩⟩
  have hIJ : Hid (∀ j : Nat, j < M → 0 ≤ (j : Int) / (w : Int) ∧ (j : Int) / (w : Int) < 1024) := fun j hj => by
    have hJd : j / w < h := Nat.div_lt_of_lt_mul (by rw [HM.out]; exact hj)
    have e : (j : Int) / (w : Int) = ((j / w : Nat) : Int) := by push_cast; rfl
    obtain ⟨J, hJ⟩ : ∃ J, j / w = J := ⟨_, rfl⟩
    rw [e, hJ]
    rw [hJ] at hJd
    clear e hJ
    omega
  go_wp2_with fail
  go_loopg [7, 8] M (fun q v7 vi wr => ∃ j : Nat, Hid (j + q = M) ∧ vi = .int .i64 (j : Int) ∧ Below W.heap.size W wr ∧ Mod (fun k => B ≤ k) Wa wr ∧ Hid (wr.ownsRow B 55 3 v7 (cnt (fun i => u2 i != u1 i) j) (fnd 1 (fun i => u2 i != u1 i) w j)))
  case atStart => exact ⟨0, Nat.zero_add _, rfl, n_B, Mod.refl _ _, HO0⟩
  case round =>
    clear HO0
    obtain ⟨j, hj, rfl, hbr, hmod, HO⟩ := hrel
    have r0 := hmod.blk n_0 (by omega)
    have rB := hmod.blk n_1 (by omega)
    have hc1 := cnt_le (fun i => u2 i != u1 i) j
    cases gk with
    | zero =>
      have ej : M = j := (show j = M from hj.out).symm
      have ht : decide (j < M) = false := decide_eq_false (by omega)
      have ht2 : decide ((j : Int) < wrap64 ((w : Int) * (h : Int))) = false := by rw [HWM.out]; exact decide_eq_false (by omega)
      subst ej
      have i_0 := cells_w r0 0 rfl
      have i_1 := cells_w r0 1 rfl
      have i_2 := cells_w r0 2 rfl
      go_wp2_with fail
      clear i_0 i_1 i_2 r0 rB
      go_loopg [7, 9] M (fun q v7 vi wr => ∃ j : Nat, Hid (j + q = M) ∧ vi = .int .i64 (j : Int) ∧ Below W.heap.size W wr ∧ Mod (fun k => B ≤ k) Wa wr ∧ Hid (wr.ownsRow B 55 3 v7 (cnt (fun i => u2 i != u1 i) M + cnt (fun i => u3 i != u1 i) j) (fnd 1 (fun i => u2 i != u1 i) w M ++ fnd 2 (fun i => u3 i != u1 i) w j)))
      case atStart => exact ⟨0, Nat.zero_add _, rfl, hbr, hmod, by simpa [cnt, fnd] using HO⟩
      case round =>
        clear HO hmod hbr
        obtain ⟨j, hj, rfl, hbr, hmod, HO⟩ := hrel
        have r0 := hmod.blk n_0 (by omega)
        have rB := hmod.blk n_2 (by omega)
        have hc1 := cnt_le (fun i => u3 i != u1 i) j
        cases gk with
        | zero =>
          have ej : M = j := (show j = M from hj.out).symm
          have ht : decide (j < M) = false := decide_eq_false (by omega)
          have ht2 : decide ((j : Int) < wrap64 ((w : Int) * (h : Int))) = false := by rw [HWM.out]; exact decide_eq_false (by omega)
          subst ej
          have i_0 := cells_w r0 0 rfl
          have i_1 := cells_w r0 1 rfl
          have i_2 := cells_w r0 2 rfl
          go_wp2_with fail
          clear i_0 i_1 i_2 r0 rB
          go_ret
          exact ⟨_, B, rfl, by omega, by rw [HM.out]; exact HO.out, hbr⟩
        | succ m =>
          have hjM : j < M := by have := hj.out; omega
          have ht : decide (j < M) = true := decide_eq_true hjM
          have hjI : (j : Int) < (M : Int) := by omega
          have ht2 : decide ((j : Int) < wrap64 ((w : Int) * (h : Int))) = true := by rw [HWM.out]; exact decide_eq_true hjI
          have q1 := fun d os => cell_regrown ((R1.below hbr) j hjM) d os
          have q2 := fun d os => cell_regrown ((R3.below hbr) j hjM) d os
          have vq : IntKind.i64.wrap ((j : Int) / (w : Int)) = (j : Int) / (w : Int) := IntWalk.i64_in _ (by have := hIJ.out j hjM; omega)
          have hw0 : ¬ w = 0 := by omega
          have htm : (j : Int).tmod (w : Int) = (j : Int) % (w : Int) := Int.tmod_eq_emod_of_nonneg (by omega)
          have htd : (j : Int).tdiv (w : Int) = (j : Int) / (w : Int) := Int.tdiv_eq_ediv_of_nonneg (by omega)
          have HF := Lib.hid (And.intro (@fnd_int 2 (fun i => u3 i != u1 i) w j) (And.intro (@fnd_no 2 (fun i => u3 i != u1 i) w j) (And.intro (@cnt_yes (fun i => u3 i != u1 i) j) (@cnt_no (fun i => u3 i != u1 i) j))))
          by_cases hd : u3 j = u1 j
          · have hb : (u3 j != u1 j) = false := by simp [hd]
            have HD := Lib.hid hb
            clear hd
            have i_0 := cells_w r0 0 rfl
            have i_1 := cells_w r0 1 rfl
            have k_0 := cells_q r0 0 rfl
            have k_1 := cells_q r0 1 rfl
            have k_2 := cells_q r0 2 rfl
            have l_0 := cells_q rB 0 rfl
            have l_1 := cells_q rB 1 rfl
            have l_2 := cells_q rB 2 rfl
            go_wp2_with fail
            refine wp_quiet (by kernel_rfl) (by kernel_rfl) ?_
            repeat (go_big_quiet_step ((first | fail)))
            refine wpQuiet_nil ?_
            intro w5 hb5
            clear i_0 i_1 k_0 k_1 k_2 l_0 l_1 l_2 q1 q2
            have hB5 := below_next hbr hb5
            have hM5 := hmod.then_below hb5
            have HO5 := Lib.hid (own_below HO.out hb5)
            go_wp2_with fail
            go_roundg m
            case measure => omega
            case rel =>
              refine ⟨j + 1, by have := hj.out; exact (show j + 1 + m = M by omega), congrArg (Value.int .i64) (by push_cast; omega), hB5, hM5, ?_⟩
              have z := HF.out.2
              rw [z.2.2 HD.out, z.1 HD.out]
              exact HO5
          · have hb : (u3 j != u1 j) = true := by simp [hd]
            have HD := Lib.hid hb
            clear hd
            have i_0 := cells_w r0 0 rfl
            have i_1 := cells_w r0 1 rfl
            have k_0 := cells_q r0 0 rfl
            have k_1 := cells_q r0 1 rfl
            have k_2 := cells_q r0 2 rfl
            have l_0 := cells_q rB 0 rfl
            have l_1 := cells_q rB 1 rfl
            have l_2 := cells_q rB 2 rfl
            go_wp2_with fail
            refine wp_quiet (by kernel_rfl) (by kernel_rfl) ?_
            repeat (go_big_quiet_step ((first | fail)))
            refine wpQuiet_nil ?_
            intro w5 hb5
            clear i_0 i_1 k_0 k_1 k_2 l_0 l_1 l_2 q1 q2
            have hB5 := below_next hbr hb5
            have hM5 := hmod.then_below hb5
            have HO5 := Lib.hid (own_below HO.out hb5)
            have r5 := below_blk hb5 r0
            have cP := cells_w r5 0 rfl
            have cP1 := fun o => cell_alloc (o := o) cP
            have hs5 := hM5.size
            have hBs : B ≤ w5.heap.size := by omega
            have HOP : Hid (∀ k, u7.ownBlock = some k → B ≤ k) := fun k hk => (HO5.out.lt k hk).1
            have HR5 := Lib.hid r5
            clear hb5 HO r0 rB r5
            go_wp2_with fail
            go_region_law
              (refine step_append_own_new B rfl (.tmp 64) (.tmp 75) 38 55 _ 3 24 rfl Try.underlying38 info_Finding rfl (by omega) _ _ _ [.int .i64 2, .int .i64 ((j : Int) % (w : Int)), .int .i64 ((j : Int) / (w : Int))] rfl _ rfl (by first | exact blk_new_at (by simp) | exact blk_drew (blk_new_at (by simp))) rfl (by intro t ht; simp at ht; rcases ht with rfl | rfl | rfl <;> rfl) (own_below HO5.out (by repeat (first | exact Below.refl _ _ | refine below_drew1 ?_ | refine below_alloc ?_ _))) (by simp; omega) (by omega) (by omega) ?_; rintro k8 cap8 w8 h8; have HN8 : Hid (w8.heap[W.heap.size]? = some (.cells #[.int .i64 (w : Int), .int .i64 (h : Int), .slice (some ad1) M c1] 25 (0, 0))) := h8.out.2.1.blk (by repeat (first | exact HR5.out | refine blk_drew ?_ | refine below_blk (below_alloc1 _ _) ?_)) (fun e => by have := HOP.out _ e; omega); have cP8 := cells_w HN8.out 0 rfl; have HO8 := Lib.hid h8.out.1; have HM8 : Hid (Mod (fun k => u7.ownBlock = some k) w5 w8) := (Mod.of_below (by repeat (first | exact Below.refl _ _ | refine below_drew1 ?_ | refine below_alloc ?_ _))).trans h8.out.2.1 (fun _ x => .inl x); clear h8)
            all_goals
              clear cP cP1 cP8
              go_wp2_with fail
              go_roundg m
              case measure => omega
              case rel =>
                refine ⟨j + 1, by have := hj.out; exact (show j + 1 + m = M by omega), congrArg (Value.int .i64) (by push_cast; omega), hB5.trans (HM8.out.below hB5.size (fun k hk => by have := HOP.out k hk; omega)), hM5.trans HM8.out (fun k hk => .inl (HOP.out k hk)), ?_⟩
                have z := HF.out
                rw [z.2.2.1 HD.out, z.1 HD.out]
                rw [← List.append_assoc, ← Nat.add_assoc]
                exact HO8.out
    | succ m =>
      have hjM : j < M := by have := hj.out; omega
      have ht : decide (j < M) = true := decide_eq_true hjM
      have hjI : (j : Int) < (M : Int) := by omega
      have ht2 : decide ((j : Int) < wrap64 ((w : Int) * (h : Int))) = true := by rw [HWM.out]; exact decide_eq_true hjI
      have q1 := fun d os => cell_regrown ((R1.below hbr) j hjM) d os
      have q2 := fun d os => cell_regrown ((R2.below hbr) j hjM) d os
      have vq : IntKind.i64.wrap ((j : Int) / (w : Int)) = (j : Int) / (w : Int) := IntWalk.i64_in _ (by have := hIJ.out j hjM; omega)
      have hw0 : ¬ w = 0 := by omega
      have htm : (j : Int).tmod (w : Int) = (j : Int) % (w : Int) := Int.tmod_eq_emod_of_nonneg (by omega)
      have htd : (j : Int).tdiv (w : Int) = (j : Int) / (w : Int) := Int.tdiv_eq_ediv_of_nonneg (by omega)
      have HF := Lib.hid (And.intro (@fnd_int 1 (fun i => u2 i != u1 i) w j) (And.intro (@fnd_no 1 (fun i => u2 i != u1 i) w j) (And.intro (@cnt_yes (fun i => u2 i != u1 i) j) (@cnt_no (fun i => u2 i != u1 i) j))))
      by_cases hd : u2 j = u1 j
      · have hb : (u2 j != u1 j) = false := by simp [hd]
        have HD := Lib.hid hb
        clear hd
        have i_0 := cells_w r0 0 rfl
        have i_1 := cells_w r0 1 rfl
        have k_0 := cells_q r0 0 rfl
        have k_1 := cells_q r0 1 rfl
        have k_2 := cells_q r0 2 rfl
        have l_0 := cells_q rB 0 rfl
        have l_1 := cells_q rB 1 rfl
        have l_2 := cells_q rB 2 rfl
        go_wp2_with fail
        refine wp_quiet (by kernel_rfl) (by kernel_rfl) ?_
        repeat (go_big_quiet_step ((first | fail)))
        refine wpQuiet_nil ?_
        intro w5 hb5
        clear i_0 i_1 k_0 k_1 k_2 l_0 l_1 l_2 q1 q2
        have hB5 := below_next hbr hb5
        have hM5 := hmod.then_below hb5
        have HO5 := Lib.hid (own_below HO.out hb5)
        go_wp2_with fail
        go_roundg m
        case measure => omega
        case rel =>
          refine ⟨j + 1, by have := hj.out; exact (show j + 1 + m = M by omega), congrArg (Value.int .i64) (by push_cast; omega), hB5, hM5, ?_⟩
          have z := HF.out.2
          rw [z.2.2 HD.out, z.1 HD.out]
          exact HO5
      · have hb : (u2 j != u1 j) = true := by simp [hd]
        have HD := Lib.hid hb
        clear hd
        have i_0 := cells_w r0 0 rfl
        have i_1 := cells_w r0 1 rfl
        have k_0 := cells_q r0 0 rfl
        have k_1 := cells_q r0 1 rfl
        have k_2 := cells_q r0 2 rfl
        have l_0 := cells_q rB 0 rfl
        have l_1 := cells_q rB 1 rfl
        have l_2 := cells_q rB 2 rfl
        go_wp2_with fail
        refine wp_quiet (by kernel_rfl) (by kernel_rfl) ?_
        repeat (go_big_quiet_step ((first | fail)))
        refine wpQuiet_nil ?_
        intro w5 hb5
        clear i_0 i_1 k_0 k_1 k_2 l_0 l_1 l_2 q1 q2
        have hB5 := below_next hbr hb5
        have hM5 := hmod.then_below hb5
        have HO5 := Lib.hid (own_below HO.out hb5)
        have r5 := below_blk hb5 r0
        have cP := cells_w r5 0 rfl
        have cP1 := fun o => cell_alloc (o := o) cP
        have hs5 := hM5.size
        have hBs : B ≤ w5.heap.size := by omega
        have HOP : Hid (∀ k, u7.ownBlock = some k → B ≤ k) := fun k hk => (HO5.out.lt k hk).1
        have HR5 := Lib.hid r5
        clear hb5 HO r0 rB r5
        go_wp2_with fail
        go_region_law
          (refine step_append_own_new B rfl (.tmp 31) (.tmp 42) 38 55 _ 3 24 rfl Try.underlying38 info_Finding rfl (by omega) _ _ _ [.int .i64 1, .int .i64 ((j : Int) % (w : Int)), .int .i64 ((j : Int) / (w : Int))] rfl _ rfl (by first | exact blk_new_at (by simp) | exact blk_drew (blk_new_at (by simp))) rfl (by intro t ht; simp at ht; rcases ht with rfl | rfl | rfl <;> rfl) (own_below HO5.out (by repeat (first | exact Below.refl _ _ | refine below_drew1 ?_ | refine below_alloc ?_ _))) (by simp; omega) (by omega) (by omega) ?_; rintro k8 cap8 w8 h8; have HN8 : Hid (w8.heap[W.heap.size]? = some (.cells #[.int .i64 (w : Int), .int .i64 (h : Int), .slice (some ad1) M c1] 25 (0, 0))) := h8.out.2.1.blk (by repeat (first | exact HR5.out | refine blk_drew ?_ | refine below_blk (below_alloc1 _ _) ?_)) (fun e => by have := HOP.out _ e; omega); have cP8 := cells_w HN8.out 0 rfl; have HO8 := Lib.hid h8.out.1; have HM8 : Hid (Mod (fun k => u7.ownBlock = some k) w5 w8) := (Mod.of_below (by repeat (first | exact Below.refl _ _ | refine below_drew1 ?_ | refine below_alloc ?_ _))).trans h8.out.2.1 (fun _ x => .inl x); clear h8)
        all_goals
          clear cP cP1 cP8
          go_wp2_with fail
          go_roundg m
          case measure => omega
          case rel =>
            refine ⟨j + 1, by have := hj.out; exact (show j + 1 + m = M by omega), congrArg (Value.int .i64) (by push_cast; omega), hB5.trans (HM8.out.below hB5.size (fun k hk => by have := HOP.out k hk; omega)), hM5.trans HM8.out (fun k hk => .inl (HOP.out k hk)), ?_⟩
            have z := HF.out
            rw [z.2.2.1 HD.out, z.1 HD.out]
            exact HO8.out
end Go.Proofs.Ytfnflgcalhiamaa
/- For hachurelaw38.AuditChecks: small laws. -/
set_option linter.unusedVariables false
set_option linter.unusedSimpArgs false
namespace Go.Proofs.Ytfnflgcalhiamaa
open Go.RowKit

theorem cnt_congr {d d' : Nat → Bool} : ∀ n, (∀ i, i < n → d i = d' i) → cnt d n = cnt d' n
  | 0, _ => rfl
  | n + 1, h => by
    show (if d n then cnt d n + 1 else cnt d n) = (if d' n then cnt d' n + 1 else cnt d' n)
    rw [cnt_congr n (fun i hi => h i (by omega)), h n (by omega)]
theorem fnd_congr {d d' : Nat → Bool} (k : Int) (w : Nat) : ∀ n, (∀ i, i < n → d i = d' i) → fnd k d w n = fnd k d' w n
  | 0, _ => rfl
  | n + 1, h => by
    show (if d n then fnd k d w n ++ _ else fnd k d w n) = (if d' n then fnd k d' w n ++ _ else fnd k d' w n)
    rw [fnd_congr k w n (fun i hi => h i (by omega)), h n (by omega)]
theorem off_self (f : Int → Int → Int) (w i : Nat) : offD f f w i = false := by
  unfold offD
  simp
theorem cnt_self (f : Int → Int → Int) (w : Nat) : ∀ n, cnt (offD f f w) n = 0
  | 0 => rfl
  | n + 1 => by rw [cnt_no (off_self f w n)]; exact cnt_self f w n
/-- The land of a row. -/
theorem land_at {w i : Nat} (u : Nat → Int) (hw : 1 ≤ w) : u (((((i / w : Nat) : Int)) * (w : Int) + ((i % w : Nat) : Int)).toNat) = u i := by
  have e : ((i / w : Nat) : Int) * (w : Int) + ((i % w : Nat) : Int) = ((i / w * w + i % w : Nat) : Int) := by push_cast; rfl
  rw [e, Int.toNat_natCast, Nat.mul_comm, Nat.div_add_mod]
theorem off_land {w i : Nat} (u1 u2 : Nat → Int) (hw : 1 ≤ w) : offD (fun x y => u1 ((y * (w : Int) + x).toNat)) (fun x y => u2 ((y * (w : Int) + x).toNat)) w i = (u2 i != u1 i) := by
  show (u2 _ != u1 _) = _
  rw [land_at u1 hw, land_at u2 hw]
theorem same38_rep (n c1 c2 k1 k2 : Nat) (o1 o2 : Option Addr) (K X Y : Nat → Int) (W : World) (hn : n ≤ 4294967296) (e1 : 0 < n → o1 = some ⟨k1, 0, none⟩) (e2 : 0 < n → o2 = some ⟨k2, 0, none⟩)
    (h1 : ∀ i, i < n → W.cell? ⟨k1, i * 3, none⟩ = some (.int .i64 (K i)) ∧ W.cell? ⟨k1, i * 3 + 1, none⟩ = some (.int .i64 (X i)) ∧ W.cell? ⟨k1, i * 3 + 2, none⟩ = some (.int .i64 (Y i)))
    (h2 : ∀ i, i < n → W.cell? ⟨k2, i * 3, none⟩ = some (.int .i64 (K i)) ∧ W.cell? ⟨k2, i * 3 + 1, none⟩ = some (.int .i64 (X i)) ∧ W.cell? ⟨k2, i * 3 + 2, none⟩ = some (.int .i64 (Y i))) :
    Calls Try.prog 12 #[.slice o1 n c1, .slice o2 n c2] W fun e W' => e = .returned (.bool true) ∧ Below W.heap.size W W' := by
  by_cases hz : n = 0
  · subst hz
    exact same38_zero o1 o2 c1 c2 W
  · obtain rfl := e1 (by omega)
    obtain rfl := e2 (by omega)
    exact same38_ok n k1 k2 c1 c2 K X Y W hn h1 h2
end Go.Proofs.Ytfnflgcalhiamaa
/- hachureref04.Same, hachurelaw09.Is (as in DownBad, for seats without down). -/
set_option linter.unusedVariables false
set_option linter.unusedSimpArgs false
namespace Go.Proofs.Ytfnflgcalhiamaa
open Go.RowKit

set_option maxHeartbeats 2000000 in
theorem same04_ok (ad ad2 : Addr) (n cap cap2 : Nat) (u : Nat → Int) (W : World) (n2 : n ≤ 1048576) (h1 : RowAt W ad n u) (h2 : RowAt W ad2 n u) :
    Calls Try.prog 39 #[.slice (some ad) n cap, .slice (some ad2) n cap2] W fun e W' => e = .returned (.bool true) ∧ Below W.heap.size W W' := by
  have H1 := Lib.hid h1
  have H2 := Lib.hid h2
  clear h1 h2
  go_enter Try.func39, Try.ntmps39
  go_wp2_with fail
  go_loopg [5] n (fun q v5 wr => ∃ j : Nat, Hid (j + q = n) ∧ v5 = .int .i64 (j : Int) ∧ Below W.heap.size W wr)
  case atStart => exact ⟨0, Nat.zero_add _, rfl, Below.refl _ _⟩
  case round =>
    obtain ⟨j, hj, rfl, hb⟩ := hrel
    cases gk with
    | zero =>
      have ht : decide (j < n) = false := decide_eq_false (by have := hj.out; omega)
      have ht2 : decide ((j : Int) < (n : Int)) = false := decide_eq_false (by have := hj.out; omega)
      go_wp2_with fail
      go_ret
      exact ⟨rfl, hb⟩
    | succ m =>
      have hlt : j < n := by have := hj.out; omega
      have ht : decide (j < n) = true := decide_eq_true hlt
      have ht2 : decide ((j : Int) < (n : Int)) = true := decide_eq_true (by omega)
      have hji : (j : Int) < (n : Int) := by omega
      have c1 := (H1.out.below hb) j hlt
      have c2 := (H2.out.below hb) j hlt
      have q1 := fun d os => cell_regrown c1 d os
      have q2 := fun d os => cell_regrown c2 d os
      go_wp2_with fail
      refine wp_quiet (by kernel_rfl) (by kernel_rfl) ?_
      repeat (go_big_quiet_step ((first | fail)))
      refine wpQuiet_nil ?_
      intro w3 hb3
      clear q1 q2 c1 c2
      go_wp2_with fail
      go_roundg m
      case measure => omega
      case rel => exact ⟨j + 1, by have := hj.out; exact (show j + 1 + m = n by omega), by first | rfl | (exact congrArg (Value.int .i64) (by push_cast; omega)), below_next hb hb3⟩

set_option maxHeartbeats 2000000 in
set_option maxRecDepth 100000 in
theorem is09_ok (g : Nat) (Fg : Nat → Prop) (w h : Int) (f : Int → Int → Int) (ad : Addr) (n cap : Nat) (W : World) (HG : GridAt W g Fg w h f) (hn : (n : Int) = w * h) (hr : RowAt W ad n (lin f w)) :
    Calls Try.prog 15 #[.pointer (some ⟨g, 0, none⟩), .agg #[.int .i64 w, .int .i64 h, .slice (some ad) n cap]] W fun e W' => e = .returned (.bool true) ∧ Below W.heap.size W W' := by
  obtain ⟨d1, d2, d3, d4⟩ := HG.dims
  obtain ⟨wn, rfl⟩ : ∃ wn : Nat, w = wn := ⟨w.toNat, by omega⟩
  obtain ⟨hh, rfl⟩ : ∃ hh : Nat, h = hh := ⟨h.toNat, by omega⟩
  have en : wn * hh = n := by have : ((wn * hh : Nat) : Int) = wn * hh := by { push_cast; rfl }; omega
  have EN := Lib.hid en
  have hb' := Nat.mul_le_mul (show wn ≤ 1024 by omega) (show hh ≤ 1024 by omega)
  have hnb : n ≤ 1048576 := by omega
  clear en hb' hn
  go_enter Try.func15, Try.ntmps15
  go_wp2_with fail
  have n0 := blk_new W (.cells #[.int .i64 (wn : Int), .int .i64 (hh : Int), .slice (some ad) n cap] 25)
  have hB := below_alloc1 W (.cells #[.int .i64 (wn : Int), .int .i64 (hh : Int), .slice (some ad) n cap] 25)
  have HG1 := HG.below hB
  refine (grid_Size_ok g Fg wn hh f _ HG1).mono ?_
  rintro e w2 ⟨rfl, hb⟩
  replace n0 := below_blk hb n0
  replace HG1 := HG1.below hb
  replace hB := below_next hB hb
  clear hb HG
  go_wp2_with fail
  refine (grid_All_ok g Fg wn hh f _ HG1).mono ?_
  rintro e w3 ⟨rfl, hb⟩
  replace n0 := below_blk hb n0
  replace HG1 := HG1.below hb
  replace hB := below_next hB hb
  clear hb
  go_wp2_with fail
  have hval := grid_Values_ok g Fg wn hh 0 0 ((wn : Int) - 1) ((hh : Int) - 1) f w3 HG1 (by omega) (by omega) (by omega) (by omega) (by omega) (by omega) wn hh (by omega) (by omega)
  rw [EN.out] at hval
  refine hval.mono ?_
  rintro e w4 ⟨k4, cap4, cs4, rfl, hcap4, hk4, hb4, hrow4, hcs4⟩
  replace n0 := below_blk hb4 n0
  replace hB := below_next hB hb4
  have hr4 : RowAt w4 ⟨k4, 0, none⟩ n (lin f wn) := RowAt.of_blk hrow4 (fun i hi => by
    rw [hcs4 i hi]
    show some (Value.int .i64 (f (0 + ((i % wn : Nat) : Int)) (0 + ((i / wn : Nat) : Int)))) = some (Value.int .i64 (f ((i : Int) % wn) ((i : Int) / wn)))
    rw [Int.zero_add, Int.zero_add, Int.natCast_emod, Int.natCast_ediv])
  have hrn := hr.below hB
  have HR4 := Lib.hid hr4
  have HRN := Lib.hid hrn
  clear hcs4 hrow4 hb4 hk4 hcap4 hr hrn hr4 hval
  have i_0 := cells_w n0 0 rfl
  have i_1 := cells_w n0 1 rfl
  have i_2 := cells_w n0 2 rfl
  go_wp2_with fail
  refine (same04_ok ⟨k4, 0, none⟩ ad n cap4 cap (lin f wn) w4 hnb HR4.out HRN.out).mono ?_
  rintro e w5 ⟨rfl, hb⟩
  go_wp2_with fail
  go_ret
  exact ⟨rfl, below_next hB hb⟩
end Go.Proofs.Ytfnflgcalhiamaa

/- slab.New, slices.Repeat, and what looks for another value. -/
import Derived.Test.YtcomnpmkedabeaaDoorSlab
import Derived.Deep.LoopGhost
import Derived.Deep.RegionLaw
set_option linter.unusedVariables false
set_option linter.unusedSimpArgs false
namespace Go.Proofs.YtcomnpmkedabeaaDoor
open Go.RowKit

theorem slab_may_yes (v : Int) (w : World) (h0 : -2147483648 ≤ v) (h1 : v ≤ 2147483647) :
    Calls Tryd.prog 54 #[.int .i64 v] w fun e w' => e = .returned (.bool true) ∧ w = w' := by
  have t1 : decide (-2147483648 ≤ v) = true := decide_eq_true h0
  have t2 : decide (v ≤ 2147483647) = true := decide_eq_true h1
  go_enter Tryd.func54, Tryd.ntmps54
  go_wp2
  go_ret
  exact ⟨rfl, rfl⟩
theorem slab_may_no (v : Int) (w : World) (h : v < -2147483648 ∨ 2147483647 < v) :
    Calls Tryd.prog 54 #[.int .i64 v] w fun e w' => e = .returned (.bool false) ∧ w = w' := by
  by_cases h0 : -2147483648 ≤ v
  · have t1 : decide (-2147483648 ≤ v) = true := decide_eq_true h0
    have t2 : decide (v ≤ 2147483647) = false := decide_eq_false (by omega)
    go_enter Tryd.func54, Tryd.ntmps54
    go_wp2
    go_ret
    exact ⟨rfl, rfl⟩
  · have t1 : decide (-2147483648 ≤ v) = false := decide_eq_false h0
    go_enter Tryd.func54, Tryd.ntmps54
    go_wp2
    go_ret
    exact ⟨rfl, rfl⟩
theorem tile_right_yes (x y : Int) (w : World) (h0 : 1 ≤ x) (h1 : x ≤ 16) (h2 : 1 ≤ y) (h3 : y ≤ 16) :
    Calls Tryd.prog 53 #[.int .i64 x, .int .i64 y] w fun e w' => e = .returned (.bool true) ∧ w = w' := by
  go_enter Tryd.func53, Tryd.ntmps53
  go_wp2
  go_ret
  exact ⟨rfl, rfl⟩

theorem wrap_i32 {v : Int} (h0 : -2147483648 ≤ v) (h1 : v ≤ 2147483647) : IntKind.i32.wrap v = v := by
  simp [IntKind.wrap, IntKind.bits, IntKind.signed]
  split <;> omega

set_option maxHeartbeats 1000000 in
theorem slab_New_ok (w h v : Int) (W : World) (w1 : 1 ≤ w) (w2 : w ≤ 16) (h1 : 1 ≤ h) (h2 : h ≤ 16) (v1 : -2147483648 ≤ v) (v2 : v ≤ 2147483647) :
    Calls Tryd.prog 32 #[.int .i64 w, .int .i64 h, .int .i64 v] W fun e W' => ∃ b, e = .returned (.tuple #[.pointer (some ⟨b, 0, none⟩), .int .i64 0]) ∧ W.heap.size ≤ b ∧ Below W.heap.size W W' ∧ SlabAt W' b (fun k => k = b) w h (fun _ _ => v) := by
  have hv := wrap_i32 v1 v2
  go_enter Tryd.func32, Tryd.ntmps32
  go_wp2_with (first | (go_at_call 53; refine (tile_right_yes _ _ _ w1 w2 h1 h2).mono ?_; rintro e w' ⟨rfl, rfl⟩) | (go_at_call 54; refine (slab_may_yes _ _ v1 v2).mono ?_; rintro e w' ⟨rfl, rfl⟩))
  go_ret2
  refine ⟨_, rfl, Nat.le_refl _, below_alloc1 _ _, w1, w2, h1, h2, rfl, fun k hk => by subst hk; simp, fun _ _ _ _ _ _ => ⟨v1, v2⟩, _, blk_new _ _, .inl ⟨v, rfl, v1, v2, fun _ _ _ _ _ _ => rfl⟩⟩

theorem and32 (m : Nat) (h : m < 4294967296) : bits .and .u64 (m : Int) 4294967295 = (m : Int) := by
  show IntKind.u64.wrap ((BitVec.ofInt 64 (m : Int) &&& (BitVec.ofInt 64 4294967295)).toNat : Int) = _
  rw [BitVec.toNat_and, BitVec.ofInt_natCast, BitVec.toNat_ofNat, Nat.mod_eq_of_lt (show m < 2 ^ 64 by omega), show (BitVec.ofInt 64 4294967295).toNat = 2 ^ 32 - 1 by decide, Nat.and_two_pow_sub_one_eq_mod, Nat.mod_eq_of_lt (by omega)]
  rw [IntKind.wrap_u64]
  omega
set_option maxHeartbeats 1000000 in
theorem mul_one (n : Nat) (w : World) (hn : n ≤ 256) :
    Calls Tryd.prog 85 #[.int .u64 1, .int .u64 (n : Int)] w fun e w' => e = .returned (.tuple #[.int .u64 0, .int .u64 (n : Int)]) ∧ w = w' := by
  go_enter Tryd.func85, Tryd.ntmps85
  have e1 : bits .and .u64 1 4294967295 = 1 := and32 1 (by omega)
  have e2 : bits .and .u64 (n : Int) 4294967295 = (n : Int) := and32 n (by omega)
  have e3 : (n : Int) / 4294967296 = 0 := by omega
  have e4 : IntKind.u64.wrap (n : Int) = n := by rw [IntKind.wrap_u64]; omega
  have e5 : bits .and .u64 0 4294967295 = 0 := and32 0 (by omega)
  have e6 : IntKind.u64.wrap 0 = 0 := by rw [IntKind.wrap_u64]; omega
  go_wp2
  go_ret2
  exact ⟨rfl, rfl⟩

theorem info_int32 : (Tryd.prog.info? 21).map (fun i => (i.zero, i.size, i.bytes)) = some (some (.int .i32 0), 1, 4) := by kernel_rfl
theorem size_int32 : (Tryd.prog.info? 21).map (·.size) = some 1 := by kernel_rfl

/-- The first m cells are v's, the rest are noughts. -/
def halfRow (v : Int) (m n : Nat) : List Value := List.replicate m (.int .i32 v) ++ List.replicate (n - m) (.int .i32 0)
theorem halfRow_splice (v : Int) (m j n : Nat) (h : m + j ≤ n) : splice (halfRow v m n) m (List.replicate j (.int .i32 v)) = halfRow v (m + j) n := by
  unfold splice halfRow
  rw [List.take_left' (by simp), List.length_replicate, List.drop_append, List.length_replicate, List.drop_of_length_le (by simp), List.nil_append, List.drop_replicate, ← List.replicate_append_replicate, List.append_assoc, show n - m - (m + j - m) = n - (m + j) by omega]
theorem halfRow_get (v : Int) (m n j : Nat) (hj : j < m) : (halfRow v m n)[j]? = some (.int .i32 v) := by
  unfold halfRow
  rw [List.getElem?_append_left (by simpa using hj)]
  simp [hj]

theorem src_one {w : World} {k : Nat} {u : Value} (h : w.cell? ⟨k, 0, none⟩ = some u) : ∀ j x, (List.replicate 1 u)[j]? = some x → w.cell? ((⟨k, 0, none⟩ : Addr).add j) = some x := by
  intro j x hx
  have hj : j = 0 := by
    have := (List.getElem?_eq_some_iff.1 hx).1
    simp at this
    exact this
  subst hj
  simp at hx
  subst hx
  exact h

set_option maxHeartbeats 1000000 in
set_option maxRecDepth 100000 in
theorem repeat_ok (k n : Nat) (v : Int) (W : World) (h1 : 1 ≤ n) (hn : n ≤ 256) (hk : W.cell? ⟨k, 0, none⟩ = some (.int .i32 v)) :
    Calls Tryd.prog 81 #[.slice (some ⟨k, 0, none⟩) 1 1, .int .i64 (n : Int)] W fun e W' => ∃ g, e = .returned (.slice (some ⟨g, 0, none⟩) n n) ∧ W.heap.size ≤ g ∧ Below W.heap.size W W' ∧
      W'.heap[g]? = some (.cells (Array.replicate n (.int .i32 v)) 21 (0, 0)) := by
  have hc0 : decide ((n : Int) < 0) = false := decide_eq_false (by omega)
  have e4 : IntKind.u64.wrap (n : Int) = n := by rw [IntKind.wrap_u64]; omega
  go_enter Tryd.func81, Tryd.ntmps81
  have hk2 : ∀ o, (W.alloc o).cell? ⟨k, 0, none⟩ = some (.int .i32 v) := fun o => below_cell (below_alloc1 W o) hk
  go_wp2_with (first | (go_at_call 85; refine (mul_one n _ hn).mono ?_; rintro e w' ⟨rfl, rfl⟩) | (at_make; refine make_one rfl (.tmp 29) (.tmp 29) 129 rfl 21 _ 4 Tryd.underlying129 info_int32 rfl n rfl rfl (by omega) (by omega) ?_) | (refine wpList_copy_splice rfl (.tmp 31) (.tmp 32) 129 129 rfl 21 Tryd.underlying129 size_int32 _ _ _ _ _ _ rfl rfl W.heap.size 0 (halfRow v 0 n) 21 (by simpa [halfRow] using blk_new W (.cells (Array.replicate n (.int .i32 0)) 21)) (List.replicate 1 (.int .i32 v)) (Nat.min_eq_left h1).symm (fun _ => ⟨rfl, _, rfl, src_one (hk2 _)⟩) (by simp [halfRow]; omega) (by intro u hu; simp at hu; subst hu; rfl) W.heap.size W (below_alloc1 _ _) (Nat.le_refl _) ?_))
  intro w1 hg hb1
  replace hg : Hid (w1.heap[W.heap.size]? = some (.cells (halfRow v (0 + 1) n).toArray 21 (0, 0))) := by rw [← halfRow_splice v 0 1 n (by omega)]; exact hg
  go_wp2_with fail
  have hn' := Lib.hid hn
  go_loopg [8] n (fun q v8 wr => ∃ m : Nat, 1 ≤ m ∧ m ≤ n ∧ n - m ≤ q ∧ v8 = .int .i64 (m : Int) ∧ Hid (wr.heap[W.heap.size]? = some (.cells (halfRow v m n).toArray 21 (0, 0))) ∧ Below W.heap.size W wr)
  case atStart => exact ⟨1, Nat.le_refl _, h1, Nat.sub_le _ _, rfl, hg, hb1⟩
  case round =>
    clear hg hb1
    obtain ⟨m, hm1, hm2, hq, rfl, hg, hb1⟩ := hrel
    by_cases hlt : m < n
    · have ht : decide ((m : Int) < (n : Int)) = true := decide_eq_true (by omega)
      go_wp2_with fail
      obtain ⟨q2, hq2⟩ : ∃ q, q = Nat.min m (n - m) := ⟨_, rfl⟩
      have hq3 : q2 ≤ m := by rw [hq2]; exact Nat.min_le_left _ _
      have hq4 : q2 ≤ n - m := by rw [hq2]; exact Nat.min_le_right _ _
      have hq5 : 1 ≤ q2 := by rw [hq2]; exact Nat.le_min.2 ⟨hm1, by omega⟩
      have Hq := Lib.hid hq2
      clear hq2
      have hsrc : ∀ j x, (List.replicate q2 (Value.int .i32 v))[j]? = some x → wr.drew.cell? ((⟨W.heap.size, 0, none⟩ : Addr).add j) = some x := by
        intro j x hx
        have hj := (List.getElem?_eq_some_iff.1 hx).1
        rw [List.length_replicate] at hj
        rw [List.getElem?_replicate, if_pos hj] at hx
        rw [add_plain]
        have h1 : wr.drew.cell? ⟨W.heap.size, j, none⟩ = wr.cell? ⟨W.heap.size, j, none⟩ := rfl
        rw [h1, blk_cell hg.out j, List.getElem?_toArray, halfRow_get v m n j (by omega), ← hx]
      have hsrcH := Lib.hid hsrc
      clear hsrc
      have hwq : IntKind.i64.wrap ((m : Int) + (q2 : Int)) = (m : Int) + (q2 : Int) := IntWalk.i64_in _ (by omega)
      have hne : ¬ n = m := by omega
      have hgd : Hid (wr.drew.heap[W.heap.size]? = some (.cells (halfRow v m n).toArray 21 (0, 0))) := hg
      have hbd : Below W.heap.size W wr.drew := hb1.drew
      go_region_law (refine want_step ?hw ?_; (case hw => exact rfl); simp only [Act.put, List.getElem_toArray, List.getElem_cons_zero, List.getElem_cons_succ, List.setIfInBounds_toArray, List.set_cons_zero, List.set_cons_succ]; refine wp_copy ?g1 (.tmp 41) (.tmp 44) 129 129 ?g2 21 Tryd.underlying129 size_int32 (some ⟨W.heap.size, m, none⟩) (some ⟨W.heap.size, 0, none⟩) (n - m) (n - m) m n ?g3 ?g4 W.heap.size m (halfRow v m n) 21 hgd.out (List.replicate q2 (.int .i32 v)) ?g5 ?g6 ?g7 ?g8 W.heap.size W hbd (Nat.le_refl _) ?g9; (case g1 => rfl); (case g2 => rfl); (case g3 => exact rfl); (case g4 => exact rfl); (case g5 => rw [List.length_replicate]; exact Hq.out); (case g6 => exact fun _ => ⟨rfl, _, rfl, hsrcH.out⟩); (case g7 => simp [halfRow]; omega); (case g8 => intro u hu; simp at hu; rw [hu.2]; rfl); intro w4 hg4 hb4)
      replace hg4 : Hid (w4.heap[W.heap.size]? = some (.cells (halfRow v (m + q2) n).toArray 21 (0, 0))) := by rw [← halfRow_splice v m q2 n (by omega)]; exact hg4
      go_wp2_with fail
      go_roundg (gk - 1)
      case measure => omega
      case rel => exact ⟨m + q2, by omega, by omega, by omega, by first | rfl | exact congrArg (Value.int .i64) (by omega), hg4, hb4⟩
    · have ht : decide ((m : Int) < (n : Int)) = false := decide_eq_false (by omega)
      go_wp2_with fail
      go_ret
      have e : m = n := by omega
      subst e
      exact ⟨_, rfl, Nat.le_refl _, hb1, by simpa [halfRow] using hg.out⟩
end Go.Proofs.YtcomnpmkedabeaaDoor

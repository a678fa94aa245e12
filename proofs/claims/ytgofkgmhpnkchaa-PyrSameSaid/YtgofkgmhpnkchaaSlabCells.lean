/- slab.Cells: all values, row by row. -/
import Derived.Test.YtgofkgmhpnkchaaSlabAt
import Derived.Deep.LoopGhost
set_option linter.unusedVariables false
set_option linter.unusedSimpArgs false
namespace Go.Proofs.Ytgofkgmhpnkchaa
open Go.RowKit

theorem info_int64 : (Try.prog.info? 2).map (fun i => (i.zero, i.size, i.bytes)) = some (some (.int .i64 0), 1, 8) := by kernel_rfl

theorem lin_at2 {w h : Int} {i : Nat} (hw : 0 < w) (hi : (i : Int) < w * h) : 0 ≤ (i : Int) % w ∧ (i : Int) % w < w ∧ 0 ≤ (i : Int) / w ∧ (i : Int) / w < h :=
  ⟨Int.emod_nonneg _ (by omega), Int.emod_lt_of_pos _ hw, Int.ediv_nonneg (by omega) (by omega), Int.ediv_lt_of_lt_mul hw (by rw [Int.mul_comm]; exact hi)⟩
/-- Values, as a row of whole numbers in new memory. -/
def RowOut (W : World) (n : Nat) (g : Nat → Int) (e : Ending) (W' : World) : Prop :=
  ∃ k, e = .returned (.slice (some ⟨k, 0, none⟩) n n) ∧ W.heap.size ≤ k ∧ Below W.heap.size W W' ∧ ∃ cs, W'.heap[k]? = some (.cells cs 2 (0, 0)) ∧ cs.size = n ∧ ∀ i, i < n → cs[i]? = some (.int .i64 (g i))

set_option maxHeartbeats 2000000 in
set_option maxRecDepth 100000 in
theorem slab_Cells_ok (b : Nat) (F : Nat → Prop) (w h : Int) (f : Int → Int → Int) (W : World) (H : SlabAt W b F w h f) :
    Calls Try.prog 82 #[.pointer (some ⟨b, 0, none⟩)] W (RowOut W (w * h).toNat (fun i => f ((i : Int) % w) ((i : Int) / w))) := by
  obtain ⟨c, hb, hl⟩ := H.blk
  have w1 := H.w1
  have w2 := H.w2
  have h1 := H.h1
  have h2 := H.h2
  have hm := mul_bd (A := 16) (B := 16) (show 0 ≤ w by omega) w2 (show 0 ≤ h by omega) h2
  obtain ⟨n, hn⟩ : ∃ n : Nat, (n : Int) = w * h := ⟨(w * h).toNat, by omega⟩
  have hn2 : n ≤ 256 := by omega
  have e1 : (w * h).toNat = n := by omega
  rw [e1]
  have hw : wrap64 (w * h) = (n : Int) := by rw [hn]; exact wrap64_id (by omega) (by omega)
  have hw2 : IntKind.i64.wrap (w * h) = (n : Int) := by rw [hn]; exact IntWalk.i64_in _ (by omega)
  have Hn := Lib.hid hn
  clear e1 hn
  rcases hl with ⟨v, rfl, hv1, hv2, hv⟩ | ⟨k, n2, cap, cs, rfl, hF, hlt2, hn2', hcap, hk, hcs⟩
  · have HV := Lib.hid hv
    clear hv
    have wv : wrap64 v = v := wrap64_id (by omega) (by omega)
    go_enter Try.func82, Try.ntmps82
    go_wp2_with fail
    have k_0 := cells_q hb 0 rfl
    have k_1 := cells_q hb 1 rfl
    have k_2 := cells_q hb 2 rfl
    refine wp_tail 9 (by kernel_rfl) (by kernel_rfl) ?_
    simp only [List.take_succ_cons, List.take_zero, List.drop_succ_cons, List.drop_zero]
    repeat (go_big_quiet_step ((first | fail)))
    refine wpQuiet_nil ?_
    intro w3 hb2
    clear k_0 k_1 k_2
    have n0 := below_blk hb2 hb
    go_wp2_with (at_make; refine make_one rfl (.tmp 15) (.tmp 15) 22 rfl 2 _ 8 Try.underlying22 info_int64 rfl n rfl rfl (by omega) (by omega) ?_)
    have hm0 := blk_new w3 (.cells (Array.replicate n (.int .i64 0)) 2)
    go_loopg [19] n (fun q v19 wr => ∃ m : Nat, Hid (m + q = n) ∧ v19 = .int .i64 (m : Int) ∧ Below w3.heap.size w3 wr ∧ ∃ cs, Hid (wr.heap[w3.heap.size]? = some (.cells cs 2 (0, 0)) ∧ cs.size = n ∧ ∀ i, i < m → cs[i]? = some (.int .i64 (f ((i : Int) % w) ((i : Int) / w)))))
    case atStart => exact ⟨0, Nat.zero_add _, rfl, below_alloc1 _ _, _, hm0, by simp, fun i hi => by omega⟩
    case round =>
      clear hm0
      obtain ⟨m, hm2, rfl, hB, cs2, hcs2⟩ := hrel
      have n1 := below_blk hB n0
      cases gk with
      | zero =>
        have ht : decide (m < n) = false := decide_eq_false (by have := hm2.out; omega)
        go_wp2_with fail
        go_ret
        have e : m = n := hm2.out
        subst e
        exact ⟨_, rfl, hb2.size, below_next hb2 hB, cs2, hcs2.out.1, hcs2.out.2.1, hcs2.out.2.2⟩
      | succ q =>
        have hlt : m < n := by have := hm2.out; omega
        have ht : decide (m < n) = true := decide_eq_true hlt
        have hd := lin_at2 (w := w) (h := h) (i := m) (by omega) (by have := Hn.out; omega)
        have hcm : (wr.cell? ⟨w3.heap.size, m, none⟩).isSome = true := by
          rw [blk_cell hcs2.out.1]
          have := hcs2.out.2.1
          simp [hlt, this]
        obtain ⟨old, hold⟩ := Option.isSome_iff_exists.1 hcm
        clear hcm
        have hfz := blk_frozen hcs2.out.1 m
        have hmn : (m : Int) < (n : Int) := by omega
        have s_0 := cells_w n1 0 rfl
        have s_1 := cells_w n1 1 rfl
        have s_2 := cells_w n1 2 rfl
        have hfm := HV.out _ _ hd.1 hd.2.1 hd.2.2.1 hd.2.2.2
        have Hd := Lib.hid hd
        clear hd
        go_wp2_with (go_at_call 137; refine (flat_at _ _ _).mono ?_; rintro e w' ⟨rfl, rfl⟩)
        go_roundg q
        case measure => omega
        case rel =>
          refine ⟨m + 1, (by have := hm2.out; exact (show m + 1 + q = n by omega)), by first | rfl | exact congrArg (Value.int .i64) (by omega), hB.setCell (Nat.le_refl _) _, _, blk_set hcs2.out.1 m _, by simpa using hcs2.out.2.1, ?_⟩
          intro i hi
          rw [Array.getElem?_setIfInBounds]
          by_cases he : m = i
          · subst he
            rw [if_pos rfl, if_pos (by have := hcs2.out.2.1; omega)]
            first | rfl | rw [hfm]
          · rw [if_neg he]
            exact hcs2.out.2.2 i (by omega)
  · have HC := Lib.hid hcs
    clear hcs
    have hne : n = n2 := by have := Hn.out; omega
    subst hne
    clear hn2'
    have hkW := blk_lt hk
    go_enter Try.func82, Try.ntmps82
    go_wp2_with fail
    have k_0 := cells_q hb 0 rfl
    have k_1 := cells_q hb 1 rfl
    have k_2 := cells_q hb 2 rfl
    refine wp_tail 9 (by kernel_rfl) (by kernel_rfl) ?_
    simp only [List.take_succ_cons, List.take_zero, List.drop_succ_cons, List.drop_zero]
    repeat (go_big_quiet_step ((first | fail)))
    refine wpQuiet_nil ?_
    intro w3 hb2
    clear k_0 k_1 k_2
    have n0 := below_blk hb2 hb
    go_wp2_with (at_make; refine make_one rfl (.tmp 15) (.tmp 15) 22 rfl 2 _ 8 Try.underlying22 info_int64 rfl n rfl rfl (by omega) (by omega) ?_)
    have hm0 := blk_new w3 (.cells (Array.replicate n (.int .i64 0)) 2)
    go_loopg [19] n (fun q v19 wr => ∃ m : Nat, Hid (m + q = n) ∧ v19 = .int .i64 (m : Int) ∧ Below w3.heap.size w3 wr ∧ ∃ cs, Hid (wr.heap[w3.heap.size]? = some (.cells cs 2 (0, 0)) ∧ cs.size = n ∧ ∀ i, i < m → cs[i]? = some (.int .i64 (f ((i : Int) % w) ((i : Int) / w)))))
    case atStart => exact ⟨0, Nat.zero_add _, rfl, below_alloc1 _ _, _, hm0, by simp, fun i hi => by omega⟩
    case round =>
      clear hm0
      obtain ⟨m, hm2, rfl, hB, cs2, hcs2⟩ := hrel
      have n1 := below_blk hB n0
      cases gk with
      | zero =>
        have ht : decide (m < n) = false := decide_eq_false (by have := hm2.out; omega)
        go_wp2_with fail
        go_ret
        have e : m = n := hm2.out
        subst e
        exact ⟨_, rfl, hb2.size, below_next hb2 hB, cs2, hcs2.out.1, hcs2.out.2.1, hcs2.out.2.2⟩
      | succ q =>
        have hlt : m < n := by have := hm2.out; omega
        have ht : decide (m < n) = true := decide_eq_true hlt
        have hd := lin_at2 (w := w) (h := h) (i := m) (by omega) (by have := Hn.out; omega)
        have hcm : (wr.cell? ⟨w3.heap.size, m, none⟩).isSome = true := by
          rw [blk_cell hcs2.out.1]
          have := hcs2.out.2.1
          simp [hlt, this]
        obtain ⟨old, hold⟩ := Option.isSome_iff_exists.1 hcm
        clear hcm
        have hfz := blk_frozen hcs2.out.1 m
        have hmn : (m : Int) < (n : Int) := by omega
        have s_0 := cells_w n1 0 rfl
        have s_1 := cells_w n1 1 rfl
        have s_2 := cells_w n1 2 rfl
        have hd2 := lin_at (w := w) (h := h) (i := m) (by omega) (by have := Hn.out; omega)
        have hci := HC.out _ _ hd.1 hd.2.1 hd.2.2.1 hd.2.2.2
        rw [hd2.2.2.2.2, Int.toNat_natCast] at hci
        have hck := (blk_cell (below_blk hB (below_blk hb2 hk)) m).trans hci
        have hbd := H.bd _ _ hd.1 hd.2.1 hd.2.2.1 hd.2.2.2
        obtain ⟨z, hz⟩ : ∃ z, f ((m : Int) % w) ((m : Int) / w) = z := ⟨_, rfl⟩
        rw [hz] at hck hbd
        have wz : wrap64 z = z := wrap64_id (by omega) (by omega)
        have hfm := Lib.hid hz
        clear hz hci hd hd2
        go_wp2_with (go_at_call 138; refine (rough_at k n cap (m : Int) z _ (by omega) (by omega) (by omega) hck).mono ?_; rintro e w' ⟨rfl, rfl⟩)
        go_roundg q
        case measure => omega
        case rel =>
          refine ⟨m + 1, (by have := hm2.out; exact (show m + 1 + q = n by omega)), by first | rfl | exact congrArg (Value.int .i64) (by omega), hB.setCell (Nat.le_refl _) _, _, blk_set hcs2.out.1 m _, by simpa using hcs2.out.2.1, ?_⟩
          intro i hi
          rw [Array.getElem?_setIfInBounds]
          by_cases he : m = i
          · subst he
            rw [if_pos rfl, if_pos (by have := hcs2.out.2.1; omega)]
            rw [hfm.out]
          · rw [if_neg he]
            exact hcs2.out.2.2 i (by omega)
end Go.Proofs.Ytgofkgmhpnkchaa

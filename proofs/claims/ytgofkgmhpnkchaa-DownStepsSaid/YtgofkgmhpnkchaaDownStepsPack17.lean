/- Texts of this claim, joined: Levels, Eq64, SlabCells, GridTwin, GridSame, DownPlain. -/
import Derived.Test.YtgofkgmhpnkchaaDownStepsPack1
import Derived.Test.YtgofkgmhpnkchaaDownStepsPack2
import Derived.Test.YtgofkgmhpnkchaaDownStepsPack5
import Derived.Test.YtgofkgmhpnkchaaDownStepsPack11
import Derived.Test.YtgofkgmhpnkchaaDownStepsPack16
import Derived.Deep.LoopGhost
/- hachurelaw18.DownLevels: the walk. -/
set_option linter.unusedVariables false
set_option linter.unusedSimpArgs false
namespace Go.Proofs.Ytgofkgmhpnkchaa
open Go.RowKit

theorem level_good (how : Int) (g : Nat) (Fg : Nat → Prop) (w h : Int) (k : Nat) (f : Int → Int → Int) (W : World) (HG : GridAt W g Fg w h f) (hk : k < levs w h) (hmay : MayF f w h) (hh : 0 ≤ how ∧ how ≤ 2) :
    Calls Try.prog 24 #[.pointer (some ⟨g, 0, none⟩), .int .i64 k, .int .i64 how] W (LevelOut how f w h k W) := by
  rcases (by omega : how = 0 ∨ how = 1 ∨ how = 2) with rfl | rfl | rfl
  · exact level_0 g Fg w h k f W HG hk hmay
  · exact level_1 g Fg w h k f W HG hk hmay
  · exact level_2 g Fg w h k f W HG hk hmay

set_option maxHeartbeats 4000000 in
set_option maxRecDepth 100000 in
theorem levels_any (w h k how : Int) (v : Value) (n : Nat) (u : Nat → Int) (W : World) (hv : ArgAt W v n u) :
    Calls Try.prog 5 #[.int .i64 w, .int .i64 h, v, .int .i64 k, .int .i64 how] W fun e W' => e = .returned (.bool true) ∧ Below W.heap.size W W' := by
  go_enter Try.func5, Try.ntmps5
  go_wp2_with fail
  refine (awake18_ok _).mono ?_
  rintro e w2 ⟨rfl, hB⟩
  go_wp2_with fail
  refine (land_any w h 1000 v n u w2 (hv.below hB)).mono ?_
  rintro e w3 ⟨hb, ⟨hland, rfl⟩ | ⟨hno, rfl⟩⟩
  rotate_left
  · replace hB := below_next hB hb
    go_wp2_with fail
    go_ret
    exact ⟨rfl, below_alloc hB _⟩
  obtain ⟨o, cap0, rfl, hn1, hn2⟩ := hv.below hB
  obtain ⟨c1, c2, c3, c4, c5, c6, c7⟩ := hland
  have hm1 := Int.mul_le_mul c1 c2 (by omega) (by omega)
  obtain ⟨ad, rfl, hr⟩ := hn2 (by omega)
  replace hr := hr.below hb
  replace hB := below_next hB hb
  obtain ⟨wn, rfl⟩ : ∃ wn : Nat, w = wn := ⟨w.toNat, by omega⟩
  obtain ⟨hn, rfl⟩ : ∃ hn : Nat, h = hn := ⟨h.toNat, by omega⟩
  have c8 : n = wn * hn := by have : ((wn * hn : Nat) : Int) = wn * hn := by { push_cast; rfl }; omega
  subst c8
  have HC := Lib.hid c6
  have hM := fun j hj => mayB_iff.1 (c7 j hj)
  have hmay : MayF (fun x y => u ((y * (wn : Int) + x).toNat)) wn hn := fun x y b0 b1 b2 b3 => by
    have := idx_lt b0 b1 b2 b3
    exact hM _ (by omega)
  have HM := Lib.hid hM
  have HMAY := Lib.hid hmay
  clear hb hv hn2 c6 c7 hm1 c5 hn1 hM hmay
  obtain ⟨N, hN⟩ : ∃ N, wn * hn = N := ⟨_, rfl⟩
  rw [hN] at hr HC HM ⊢
  have HN := Lib.hid hN
  clear hN
  go_wp2_with fail
  have nM := blk_new w3 (.cells #[.int .i64 (wn : Int), .int .i64 (hn : Int), .slice (some ad) N cap0] 27)
  have hb := below_alloc1 w3 (.cells #[.int .i64 (wn : Int), .int .i64 (hn : Int), .slice (some ad) N cap0] 27)
  obtain ⟨w4, hw4⟩ : ∃ w4, w3.alloc (.cells #[.int .i64 (wn : Int), .int .i64 (hn : Int), .slice (some ad) N cap0] 27) = w4 := ⟨_, rfl⟩
  obtain ⟨M, hM⟩ : ∃ M, w3.heap.size = M := ⟨_, rfl⟩
  rw [hM] at nM
  rw [hw4] at nM hb
  rw [hM, hw4]
  replace hr := hr.below hb
  replace hB := below_next hB hb
  clear hb hw4 hM
  have hm7 := made_ok wn hn w4 (by omega) (by omega) (by omega) (by omega) ad cap0 u (by rw [HN.out]; exact HM.out) (by rw [HN.out]; exact hr)
  rw [HN.out] at hm7
  refine hm7.mono ?_
  clear hm7
  rintro e w5 ⟨g, Fg, rfl, hb, hFg, HG⟩
  replace hr := hr.below hb
  replace nM := below_blk hb nM
  have hB5 := below_next hB hb
  clear hb hB hFg
  go_wp2_with fail
  by_cases hbad : ¬ (0 ≤ k ∧ k < (levs wn hn : Int) ∧ 0 ≤ how ∧ how ≤ 2)
  · refine (level_bad how k g Fg wn hn _ w5 HG hbad).mono ?_
    rintro e w6 ⟨rfl, hb⟩
    replace nM := below_blk hb nM
    have hB6 := below_next hB5 hb
    have HBAD := Lib.hid hbad
    clear hb hbad
    have i_0 := cells_w nM 0 rfl
    have i_1 := cells_w nM 1 rfl
    have i_2 := cells_w nM 2 rfl
    go_wp2_with fail
    refine (ref18_bad how k ad cap0 N wn hn w6 (by omega) (by omega) (by omega) (by omega) HBAD.out).mono ?_
    rintro e w7 ⟨rfl, hb⟩
    have hB7 := below_next hB6 hb
    clear hb
    go_wp2_with fail
    go_ret
    exact ⟨rfl, below_alloc hB7 _⟩
  · have hgood : 0 ≤ k ∧ k < (levs wn hn : Int) ∧ 0 ≤ how ∧ how ≤ 2 := by omega
    obtain ⟨kk, rfl⟩ : ∃ kk : Nat, k = kk := ⟨k.toNat, by omega⟩
    have HGD := Lib.hid hgood
    clear hbad hgood
    refine (level_good how g Fg wn hn kk _ w5 HG (by have := HGD.out; omega) HMAY.out HGD.out.2.2).mono ?_
    rintro e w6 ⟨g2, F2, rfl, hb, hF2, HG2⟩
    replace hr := hr.below hb
    replace nM := below_blk hb nM
    have hB6 := below_next hB5 hb
    have HG6 := HG.below hb
    clear hb HG hF2 hB5
    have i_0 := cells_w nM 0 rfl
    have i_1 := cells_w nM 1 rfl
    have i_2 := cells_w nM 2 rfl
    go_wp2_with fail
    refine (ref18_ok how kk ad cap0 N u wn hn w6 (by omega) (by omega) (by omega) (by omega) HC.out hr HM.out (by have := HGD.out; omega) HGD.out.2.2).mono ?_
    rintro e w7 ⟨q7, n7, cap7, rfl, hn7, hrow7, hb⟩
    have hb8 := below_next hb (below_alloc1 w7 (.cells #[.int .i64 (lw wn kk), .int .i64 (lw hn kk), .slice (some ⟨q7, 0, none⟩) n7 cap7] 27))
    have nM8 := below_blk hb8 nM
    have hB8 := below_next hB6 hb8
    have HR8 := Lib.hid (hr.below hb8)
    have HG8 := Lib.hid (HG6.below hb8)
    have HG28 := Lib.hid (HG2.below hb8)
    have HRW8 := Lib.hid (hrow7.below (below_alloc1 w7 (.cells #[.int .i64 (lw wn kk), .int .i64 (lw hn kk), .slice (some ⟨q7, 0, none⟩) n7 cap7] 27)))
    have HN7 := Lib.hid hn7
    have nQ := blk_new w7 (.cells #[.int .i64 (lw wn kk), .int .i64 (lw hn kk), .slice (some ⟨q7, 0, none⟩) n7 cap7] 27)
    clear hb hb8 hr HG6 HG2 hrow7 hn7 hB6 nM i_0 i_1 i_2
    go_wp2_with fail
    refine (is09_ok g2 F2 _ _ _ ⟨q7, 0, none⟩ n7 cap7 _ HG28.out HN7.out HRW8.out).mono ?_
    rintro e w9 ⟨rfl, hb⟩
    have nM9 := below_blk hb nM8
    have HB9 := Lib.hid (below_next hB8 hb)
    have HG9 := Lib.hid (HG8.out.below hb)
    have HR9 := Lib.hid (HR8.out.below hb)
    clear hb nQ hB8 nM8
    have i_0 := cells_w nM9 0 rfl
    have i_1 := cells_w nM9 1 rfl
    have i_2 := cells_w nM9 2 rfl
    go_wp2_with fail
    refine (is09_ok g Fg wn hn _ ad N cap0 w9 HG9.out HC.out (fun i hi => by
      have hl := lin_at (w := wn) (h := hn) (i := i) (by omega) (by have := HC.out; omega)
      have h8 := HR9.out i hi
      unfold lin
      dsimp only
      rw [hl.2.2.2.2, Int.toNat_natCast]
      exact h8)).mono ?_
    rintro e w10 ⟨rfl, hb⟩
    go_wp2_with fail
    go_ret
    exact ⟨rfl, below_next HB9.out hb⟩
end Go.Proofs.Ytgofkgmhpnkchaa
/- slices.Equal of whole numbers: a bool. -/
set_option linter.unusedVariables false
set_option linter.unusedSimpArgs false
namespace Go.Proofs.Ytgofkgmhpnkchaa
open Go.RowKit

/-- An answer, and what it means. -/
def Tells (p : Prop) (W : World) (e : Ending) (W' : World) : Prop := ∃ r : Bool, e = .returned (.bool r) ∧ (r = true ↔ p) ∧ Below W.heap.size W W'

set_option maxHeartbeats 2000000 in
theorem equal64_any (ad ad2 : Addr) (n n2 cap cap2 : Nat) (u u2 : Nat → Int) (W : World) (hn : n ≤ 1048576) (hn2 : n2 ≤ 1048576) (h1 : RowAt W ad n u) (h2 : RowAt W ad2 n2 u2) :
    Calls Try.prog 81 #[.slice (some ad) n cap, .slice (some ad2) n2 cap2] W (Tells (n = n2 ∧ ∀ i, i < n → u i = u2 i) W) := by
  have H1 := Lib.hid h1
  have H2 := Lib.hid h2
  clear h1 h2
  by_cases hl : n = n2
  rotate_left
  · have hb : ((n : Int) != (n2 : Int)) = true := by simp; omega
    go_enter Try.func81, Try.ntmps81
    go_wp2_with fail
    go_ret
    exact ⟨false, rfl, ⟨fun h => by (cases h), fun h => absurd h.1 hl⟩, Below.refl _ _⟩
  subst hl
  go_enter Try.func81, Try.ntmps81
  go_wp2_with fail
  go_loopg [13] n (fun q v13 wr => ∃ j : Nat, Hid (j + q = n) ∧ v13 = .int .i64 (j : Int) ∧ Hid (∀ i, i < j → u i = u2 i) ∧ Below W.heap.size W wr)
  case atStart => exact ⟨0, Nat.zero_add _, rfl, fun i hi => by omega, Below.refl _ _⟩
  case round =>
    obtain ⟨j, hj, rfl, hall, hb⟩ := hrel
    cases gk with
    | zero =>
      have ht : decide (j < n) = false := decide_eq_false (by have := hj.out; omega)
      have ht2 : decide ((j : Int) < (n : Int)) = false := decide_eq_false (by have := hj.out; omega)
      go_wp2_with fail
      go_ret
      have ej : j = n := hj.out
      exact ⟨true, rfl, ⟨fun _ => ⟨by trivial, fun i hi => hall.out i (by omega)⟩, fun _ => rfl⟩, hb⟩
    | succ m =>
      have hlt : j < n := by have := hj.out; omega
      have ht : decide (j < n) = true := decide_eq_true hlt
      have ht2 : decide ((j : Int) < (n : Int)) = true := decide_eq_true (by omega)
      have hji : (j : Int) < (n : Int) := by omega
      have c1 := (H1.out.below hb) j hlt
      have c2 := (H2.out.below hb) j hlt
      have q1 := fun d os => cell_regrown c1 d os
      have q2 := fun d os => cell_regrown c2 d os
      by_cases he : u j = u2 j
      · have hbe : (u j != u2 j) = false := by simp [he]
        have HE := Lib.hid he
        clear he
        go_wp2_with fail
        refine wp_quiet (by kernel_rfl) (by kernel_rfl) ?_
        repeat (go_big_quiet_step ((first | fail)))
        refine wpQuiet_nil ?_
        intro w3 hb3
        clear q1 q2 c1 c2
        go_wp2_with fail
        go_roundg m
        case measure => omega
        case rel =>
          refine ⟨j + 1, by have := hj.out; exact (show j + 1 + m = n by omega), by first | rfl | (exact congrArg (Value.int .i64) (by push_cast; omega)), fun i hi => ?_, below_next hb hb3⟩
          by_cases e : i = j
          · subst e; exact HE.out
          · exact hall.out i (by omega)
      · have hbe : (u j != u2 j) = true := by simp [he]
        have HE := Lib.hid he
        clear he
        go_wp2_with fail
        refine wp_quiet (by kernel_rfl) (by kernel_rfl) ?_
        repeat (go_big_quiet_step ((first | fail)))
        refine wpQuiet_nil ?_
        intro w3 hb3
        clear q1 q2 c1 c2
        go_wp2_with fail
        go_ret
        exact ⟨false, rfl, ⟨fun h => by (cases h), fun h => absurd (h.2 j hlt) HE.out⟩, below_next hb hb3⟩
end Go.Proofs.Ytgofkgmhpnkchaa
/- slab.Cells: all values, row by row. -/
set_option linter.unusedVariables false
set_option linter.unusedSimpArgs false
namespace Go.Proofs.Ytgofkgmhpnkchaa
open Go.RowKit

set_option maxHeartbeats 2000000 in
set_option maxRecDepth 100000 in
theorem slab_Cells_ok (b : Nat) (F : Nat → Prop) (w h : Int) (f : Int → Int → Int) (W : World) (H : SlabAt W b F w h f) :
    Calls Try.prog 82 #[.pointer (some ⟨b, 0, none⟩)] W (RowOut W (w * h).toNat (fun i => f ((i : Int) % w) ((i : Int) / w))) := by
  obtain ⟨c, hb, hl⟩ := H.blk
  have w1 := H.w1
  have w2 := H.w2
  have h1 := H.h1
  have h2 := H.h2
  have hm := mul_bd (A := 16) (B := 16) (show 0 ≤ w by omega) w2 (show 0 ≤ h by omega) h2
  obtain ⟨n, hn⟩ : ∃ n : Nat, (n : Int) = w * h := ⟨(w * h).toNat, by omega⟩
  have hn2 : n ≤ 256 := by omega
  have e1 : (w * h).toNat = n := by omega
  rw [e1]
  have hw : wrap64 (w * h) = (n : Int) := by rw [hn]; exact wrap64_id (by omega) (by omega)
  have hw2 : IntKind.i64.wrap (w * h) = (n : Int) := by rw [hn]; exact IntWalk.i64_in _ (by omega)
  have Hn := Lib.hid hn
  clear e1 hn
  rcases hl with ⟨v, rfl, hv1, hv2, hv⟩ | ⟨k, n2, cap, cs, rfl, hF, hlt2, hn2', hcap, hk, hcs⟩
  · have HV := Lib.hid hv
    clear hv
    have wv : wrap64 v = v := wrap64_id (by omega) (by omega)
    go_enter Try.func82, Try.ntmps82
    go_wp2_with fail
    have k_0 := cells_q hb 0 rfl
    have k_1 := cells_q hb 1 rfl
    have k_2 := cells_q hb 2 rfl
    refine wp_tail 9 (by kernel_rfl) (by kernel_rfl) ?_
    simp only [List.take_succ_cons, List.take_zero, List.drop_succ_cons, List.drop_zero]
    repeat (go_big_quiet_step ((first | fail)))
    refine wpQuiet_nil ?_
    intro w3 hb2
    clear k_0 k_1 k_2
    have n0 := below_blk hb2 hb
    go_wp2_with (at_make; refine make_one rfl (.tmp 15) (.tmp 15) 22 rfl 2 _ 8 Try.underlying22 info_int64 rfl n rfl rfl (by omega) (by omega) ?_)
    have hm0 := blk_new w3 (.cells (Array.replicate n (.int .i64 0)) 2)
    go_loopg [19] n (fun q v19 wr => ∃ m : Nat, Hid (m + q = n) ∧ v19 = .int .i64 (m : Int) ∧ Below w3.heap.size w3 wr ∧ ∃ cs, Hid (wr.heap[w3.heap.size]? = some (.cells cs 2 (0, 0)) ∧ cs.size = n ∧ ∀ i, i < m → cs[i]? = some (.int .i64 (f ((i : Int) % w) ((i : Int) / w)))))
    case atStart => exact ⟨0, Nat.zero_add _, rfl, below_alloc1 _ _, _, hm0, by simp, fun i hi => by omega⟩
    case round =>
      clear hm0
      obtain ⟨m, hm2, rfl, hB, cs2, hcs2⟩ := hrel
      have n1 := below_blk hB n0
      cases gk with
      | zero =>
        have ht : decide (m < n) = false := decide_eq_false (by have := hm2.out; omega)
        go_wp2_with fail
        go_ret
        have e : m = n := hm2.out
        subst e
        exact ⟨_, rfl, hb2.size, below_next hb2 hB, cs2, hcs2.out.1, hcs2.out.2.1, hcs2.out.2.2⟩
      | succ q =>
        have hlt : m < n := by have := hm2.out; omega
        have ht : decide (m < n) = true := decide_eq_true hlt
        have hd := lin_at2 (w := w) (h := h) (i := m) (by omega) (by have := Hn.out; omega)
        have hcm : (wr.cell? ⟨w3.heap.size, m, none⟩).isSome = true := by
          rw [blk_cell hcs2.out.1]
          have := hcs2.out.2.1
          simp [hlt, this]
        obtain ⟨old, hold⟩ := Option.isSome_iff_exists.1 hcm
        clear hcm
        have hfz := blk_frozen hcs2.out.1 m
        have hmn : (m : Int) < (n : Int) := by omega
        have s_0 := cells_w n1 0 rfl
        have s_1 := cells_w n1 1 rfl
        have s_2 := cells_w n1 2 rfl
        have hfm := HV.out _ _ hd.1 hd.2.1 hd.2.2.1 hd.2.2.2
        have Hd := Lib.hid hd
        clear hd
        go_wp2_with (go_at_call 137; refine (flat_at _ _ _).mono ?_; rintro e w' ⟨rfl, rfl⟩)
        go_roundg q
        case measure => omega
        case rel =>
          refine ⟨m + 1, (by have := hm2.out; exact (show m + 1 + q = n by omega)), by first | rfl | exact congrArg (Value.int .i64) (by omega), hB.setCell (Nat.le_refl _) _, _, blk_set hcs2.out.1 m _, by simpa using hcs2.out.2.1, ?_⟩
          intro i hi
          rw [Array.getElem?_setIfInBounds]
          by_cases he : m = i
          · subst he
            rw [if_pos rfl, if_pos (by have := hcs2.out.2.1; omega)]
            first | rfl | rw [hfm]
          · rw [if_neg he]
            exact hcs2.out.2.2 i (by omega)
  · have HC := Lib.hid hcs
    clear hcs
    have hne : n = n2 := by have := Hn.out; omega
    subst hne
    clear hn2'
    have hkW := blk_lt hk
    go_enter Try.func82, Try.ntmps82
    go_wp2_with fail
    have k_0 := cells_q hb 0 rfl
    have k_1 := cells_q hb 1 rfl
    have k_2 := cells_q hb 2 rfl
    refine wp_tail 9 (by kernel_rfl) (by kernel_rfl) ?_
    simp only [List.take_succ_cons, List.take_zero, List.drop_succ_cons, List.drop_zero]
    repeat (go_big_quiet_step ((first | fail)))
    refine wpQuiet_nil ?_
    intro w3 hb2
    clear k_0 k_1 k_2
    have n0 := below_blk hb2 hb
    go_wp2_with (at_make; refine make_one rfl (.tmp 15) (.tmp 15) 22 rfl 2 _ 8 Try.underlying22 info_int64 rfl n rfl rfl (by omega) (by omega) ?_)
    have hm0 := blk_new w3 (.cells (Array.replicate n (.int .i64 0)) 2)
    go_loopg [19] n (fun q v19 wr => ∃ m : Nat, Hid (m + q = n) ∧ v19 = .int .i64 (m : Int) ∧ Below w3.heap.size w3 wr ∧ ∃ cs, Hid (wr.heap[w3.heap.size]? = some (.cells cs 2 (0, 0)) ∧ cs.size = n ∧ ∀ i, i < m → cs[i]? = some (.int .i64 (f ((i : Int) % w) ((i : Int) / w)))))
    case atStart => exact ⟨0, Nat.zero_add _, rfl, below_alloc1 _ _, _, hm0, by simp, fun i hi => by omega⟩
    case round =>
      clear hm0
      obtain ⟨m, hm2, rfl, hB, cs2, hcs2⟩ := hrel
      have n1 := below_blk hB n0
      cases gk with
      | zero =>
        have ht : decide (m < n) = false := decide_eq_false (by have := hm2.out; omega)
        go_wp2_with fail
        go_ret
        have e : m = n := hm2.out
        subst e
        exact ⟨_, rfl, hb2.size, below_next hb2 hB, cs2, hcs2.out.1, hcs2.out.2.1, hcs2.out.2.2⟩
      | succ q =>
        have hlt : m < n := by have := hm2.out; omega
        have ht : decide (m < n) = true := decide_eq_true hlt
        have hd := lin_at2 (w := w) (h := h) (i := m) (by omega) (by have := Hn.out; omega)
        have hcm : (wr.cell? ⟨w3.heap.size, m, none⟩).isSome = true := by
          rw [blk_cell hcs2.out.1]
          have := hcs2.out.2.1
          simp [hlt, this]
        obtain ⟨old, hold⟩ := Option.isSome_iff_exists.1 hcm
        clear hcm
        have hfz := blk_frozen hcs2.out.1 m
        have hmn : (m : Int) < (n : Int) := by omega
        have s_0 := cells_w n1 0 rfl
        have s_1 := cells_w n1 1 rfl
        have s_2 := cells_w n1 2 rfl
        have hd2 := lin_at (w := w) (h := h) (i := m) (by omega) (by have := Hn.out; omega)
        have hci := HC.out _ _ hd.1 hd.2.1 hd.2.2.1 hd.2.2.2
        rw [hd2.2.2.2.2, Int.toNat_natCast] at hci
        have hck := (blk_cell (below_blk hB (below_blk hb2 hk)) m).trans hci
        have hbd := H.bd _ _ hd.1 hd.2.1 hd.2.2.1 hd.2.2.2
        obtain ⟨z, hz⟩ : ∃ z, f ((m : Int) % w) ((m : Int) / w) = z := ⟨_, rfl⟩
        rw [hz] at hck hbd
        have wz : wrap64 z = z := wrap64_id (by omega) (by omega)
        have hfm := Lib.hid hz
        clear hz hci hd hd2
        go_wp2_with (go_at_call 138; refine (rough_at k n cap (m : Int) z _ (by omega) (by omega) (by omega) hck).mono ?_; rintro e w' ⟨rfl, rfl⟩)
        go_roundg q
        case measure => omega
        case rel =>
          refine ⟨m + 1, (by have := hm2.out; exact (show m + 1 + q = n by omega)), by first | rfl | exact congrArg (Value.int .i64) (by omega), hB.setCell (Nat.le_refl _) _, _, blk_set hcs2.out.1 m _, by simpa using hcs2.out.2.1, ?_⟩
          intro i hi
          rw [Array.getElem?_setIfInBounds]
          by_cases he : m = i
          · subst he
            rw [if_pos rfl, if_pos (by have := hcs2.out.2.1; omega)]
            rw [hfm.out]
          · rw [if_neg he]
            exact hcs2.out.2.2 i (by omega)
end Go.Proofs.Ytgofkgmhpnkchaa
/- grid.Same's pair of slabs, and its list. -/
set_option linter.unusedVariables false
set_option linter.unusedSimpArgs false
namespace Go.Proofs.Ytgofkgmhpnkchaa
open Go.RowKit

set_option maxHeartbeats 2000000 in
theorem slab_twin_any (b1 b2 : Nat) (F1 F2 : Nat → Prop) (w h : Int) (f f' : Int → Int → Int) (W : World) (w2 : w ≤ 16) (h2 : h ≤ 16) (H1 : SlabAt W b1 F1 w h f) (H2 : SlabAt W b2 F2 w h f') :
    Calls Try.prog 80 #[.pointer (some ⟨b1, 0, none⟩), .pointer (some ⟨b2, 0, none⟩)] W (Tells (∀ x y, 0 ≤ x → x < w → 0 ≤ y → y < h → f x y = f' x y) W) := by
  have w1 := H1.w1
  have h1 := H1.h1
  have hm := mul_bd (a := w) (b := h) (A := 16) (B := 16) (by omega) w2 (by omega) h2
  go_enter Try.func80, Try.ntmps80
  go_wp2_with fail
  refine (slab_Cells_ok b1 F1 w h f W H1).mono ?_
  rintro e w2' ⟨k1, rfl, hk1, hb, cs1, hrow1, _, hcs1⟩
  have H2' := H2.below hb
  have hB := hb
  have HR1 := Lib.hid (RowAt.of_blk hrow1 hcs1)
  clear hb hrow1 hcs1 H1 H2
  go_wp2_with fail
  refine (slab_Cells_ok b2 F2 w h f' w2' H2').mono ?_
  rintro e w3' ⟨k2, rfl, hk2, hb, cs2, hrow2, _, hcs2⟩
  have HR2 := Lib.hid (RowAt.of_blk hrow2 hcs2)
  have HR1' := Lib.hid (HR1.out.below hb)
  have hB3 := below_next hB hb
  obtain ⟨N, hN⟩ : ∃ N, (w * h).toNat = N := ⟨_, rfl⟩
  rw [hN] at HR1' HR2 ⊢
  have hNb : N ≤ 1048576 := by omega
  have HN := Lib.hid hN
  clear hb hrow2 hcs2 H2' hB HR1 hN
  go_wp2_with fail
  refine (equal64_any ⟨k1, 0, none⟩ ⟨k2, 0, none⟩ N N N N _ _ w3' hNb hNb HR1'.out HR2.out).mono ?_
  rintro e w4' ⟨r, rfl, hr, hb⟩
  go_wp2_with fail
  go_ret
  refine ⟨r, rfl, hr.trans ⟨fun hh x y a1 a2 a3 a4 => ?_, fun hh => ⟨by trivial, fun i hi => ?_⟩⟩, below_next hB3 hb⟩
  · have hi := idx_lt a1 a2 a3 a4
    have h9 := hh.2 (y * w + x).toNat (by have := HN.out; omega)
    have e1 := lin_idx (g := f) a1 a2 a3
    have e2 := lin_idx (g := f') a1 a2 a3
    unfold lin at e1 e2
    rw [← e1, ← e2]
    exact h9
  · have hl := lin_at (w := w) (h := h) (i := i) (by omega) (by have := HN.out; omega)
    exact hh _ _ hl.1 hl.2.1 hl.2.2.1 hl.2.2.2.1

/-- Two lists of slabs. -/
def SlabsAt (W : World) (A1 A2 n : Nat) (sw sh : Nat → Int) (f f' : Nat → Int → Int → Int) : Prop :=
  ∀ i, i < n → sw i ≤ 16 ∧ sh i ≤ 16 ∧ ∃ (b1 b2 : Nat) (F1 F2 : Nat → Prop), W.cell? ⟨A1, i, none⟩ = some (.pointer (some ⟨b1, 0, none⟩)) ∧ W.cell? ⟨A2, i, none⟩ = some (.pointer (some ⟨b2, 0, none⟩)) ∧ SlabAt W b1 F1 (sw i) (sh i) (f i) ∧ SlabAt W b2 F2 (sw i) (sh i) (f' i)
theorem SlabsAt.below {W W' : World} {A1 A2 n : Nat} {sw sh : Nat → Int} {f f' : Nat → Int → Int → Int} (H : SlabsAt W A1 A2 n sw sh f f') (hb : Below W.heap.size W W') : SlabsAt W' A1 A2 n sw sh f f' := fun i hi => by
  obtain ⟨h1, h2, b1, b2, F1, F2, h3, h4, h5, h6⟩ := H i hi
  exact ⟨h1, h2, b1, b2, F1, F2, below_cell hb h3, below_cell hb h4, h5.below hb, h6.below hb⟩

set_option maxHeartbeats 2000000 in
theorem equal_slabs_any (A1 A2 n cap cap2 : Nat) (sw sh : Nat → Int) (f f' : Nat → Int → Int → Int) (W : World) (hn : n ≤ 1048576) (H : SlabsAt W A1 A2 n sw sh f f') :
    Calls Try.prog 79 #[.slice (some ⟨A1, 0, none⟩) n cap, .slice (some ⟨A2, 0, none⟩) n cap2, .func (.func 80) #[] #[]] W
      (Tells (∀ i, i < n → ∀ x y, 0 ≤ x → x < sw i → 0 ≤ y → y < sh i → f i x y = f' i x y) W) := by
  have HT := Lib.hid H
  clear H
  go_enter Try.func79, Try.ntmps79
  go_wp2_with fail
  go_loopg [17] n (fun q v17 wr => ∃ j : Nat, Hid (j + q = n) ∧ v17 = .int .i64 (j : Int) ∧ Hid (∀ i, i < j → ∀ x y, 0 ≤ x → x < sw i → 0 ≤ y → y < sh i → f i x y = f' i x y) ∧ Below W.heap.size W wr)
  case atStart => exact ⟨0, Nat.zero_add _, rfl, fun i hi => by omega, Below.refl _ _⟩
  case round =>
    obtain ⟨j, hj, rfl, hall, hb⟩ := hrel
    cases gk with
    | zero =>
      have ht : decide (j < n) = false := decide_eq_false (by have := hj.out; omega)
      have ht2 : decide ((j : Int) < (n : Int)) = false := decide_eq_false (by have := hj.out; omega)
      go_wp2_with fail
      go_ret
      have ej : j = n := hj.out
      exact ⟨true, rfl, ⟨fun _ i hi => hall.out i (by omega), fun _ => rfl⟩, hb⟩
    | succ m =>
      have hlt : j < n := by have := hj.out; omega
      have ht : decide (j < n) = true := decide_eq_true hlt
      have ht2 : decide ((j : Int) < (n : Int)) = true := decide_eq_true (by omega)
      have hji : (j : Int) < (n : Int) := by omega
      obtain ⟨g1, g2, b1, b2, F1, F2, h3, h4, h5, h6⟩ := (HT.out.below hb) j hlt
      have HS := Lib.hid (And.intro h5 h6)
      clear h5 h6
      go_wp2_with fail
      refine (slab_twin_any b1 b2 F1 F2 (sw j) (sh j) (f j) (f' j) wr g1 g2 HS.out.1 HS.out.2).mono ?_
      rintro e w2 ⟨r, rfl, hr, hb2⟩
      have hb3 := below_next hb hb2
      have HRR := Lib.hid hr
      clear h3 h4 hb2 hr
      cases r with
      | true =>
        go_wp2_with fail
        go_roundg m
        case measure => omega
        case rel =>
          refine ⟨j + 1, by have := hj.out; exact (show j + 1 + m = n by omega), by first | rfl | (exact congrArg (Value.int .i64) (by push_cast; omega)), fun i hi => ?_, hb3⟩
          by_cases e : i = j
          · subst e; exact HRR.out.1 (by trivial)
          · exact hall.out i (by omega)
      | false =>
        go_wp2_with fail
        go_ret
        exact ⟨false, rfl, ⟨fun h => by (cases h), fun h => absurd (HRR.out.2 (h j hlt)) (by decide)⟩, hb3⟩
end Go.Proofs.Ytgofkgmhpnkchaa
/- grid.Same: a bool, and what it means. -/
set_option linter.unusedVariables false
set_option linter.unusedSimpArgs false
namespace Go.Proofs.Ytgofkgmhpnkchaa
open Go.RowKit

set_option maxHeartbeats 2000000 in
set_option maxRecDepth 100000 in
theorem grid_same_any (g1 g2 : Nat) (F1 F2 : Nat → Prop) (w h x y : Int) (f f' : Int → Int → Int) (W : World) (H1 : GridAt W g1 F1 w h f) (H2 : GridAt W g2 F2 x y f') :
    Calls Try.prog 35 #[.pointer (some ⟨g1, 0, none⟩), .pointer (some ⟨g2, 0, none⟩)] W (Tells (w = x ∧ h = y ∧ ∀ X Y, 0 ≤ X → X < w → 0 ≤ Y → Y < h → f X Y = f' X Y) W) := by
  obtain ⟨A1, n1, cap1, ps1, s1, Fs1, R1⟩ := H1
  obtain ⟨A2, n2, cap2, ps2, s2, Fs2, R2⟩ := H2
  have hd1 := R1.grid
  have hd2 := R2.grid
  have a_0 := cells_q hd1 0 rfl
  have a_1 := cells_q hd1 1 rfl
  have a_2 := cells_q hd1 2 rfl
  have a_3 := cells_q hd1 3 rfl
  have b_0 := cells_q hd2 0 rfl
  have b_1 := cells_q hd2 1 rfl
  have b_2 := cells_q hd2 2 rfl
  have b_3 := cells_q hd2 3 rfl
  by_cases hw : w = x
  rotate_left
  · have hwb : (w == x) = false := by simp [hw]
    have HW := Lib.hid hw
    clear hw R1 R2
    go_enter Try.func35, Try.ntmps35
    go_wp2_with fail
    refine wp_quiet (by kernel_rfl) (by kernel_rfl) ?_
    repeat (go_big_quiet_step ((first | fail)))
    refine wpQuiet_nil ?_
    intro W2 hb2
    go_wp2_with fail
    go_ret
    exact ⟨false, rfl, ⟨fun hh => by (cases hh), fun hh => absurd hh.1 HW.out⟩, hb2⟩
  by_cases hh : h = y
  rotate_left
  · have hwb : (w == x) = true := by simp [hw]
    have hhb : (h == y) = false := by simp [hh]
    have HW := Lib.hid hh
    clear hh hw R1 R2
    go_enter Try.func35, Try.ntmps35
    go_wp2_with fail
    refine wp_quiet (by kernel_rfl) (by kernel_rfl) ?_
    repeat (go_big_quiet_step ((first | fail)))
    refine wpQuiet_nil ?_
    intro W2 hb2
    go_wp2_with fail
    go_ret
    exact ⟨false, rfl, ⟨fun hh => by (cases hh), fun hh => absurd hh.2.1 HW.out⟩, hb2⟩
  subst hw hh
  have hn : n1 = n2 := by rw [R1.n_eq, R2.n_eq]
  subst hn
  have bw := acr_bd R1.w1 R1.w2
  have bh := acr_bd R1.h1 R1.h2
  have hnb : n1 ≤ 1048576 := by have := Nat.mul_le_mul bw.2 bh.2; have := R1.n_eq; omega
  have hS : SlabsAt W A1 A2 n1 (fun i => side w (i % acr w)) (fun i => side h (i / acr w)) (fun i => tileF f w i) (fun i => tileF f' w i) := fun i hi => by
    have hi2 : i < acr w * acr h := by rw [← R1.n_eq]; exact hi
    have q1 := side_bd R1.w1 (Nat.mod_lt i (by omega : 0 < acr w))
    have q2 := side_bd R1.h1 (Nat.div_lt_of_lt_mul hi2 : i / acr w < acr h)
    exact ⟨q1.2, q2.2, s1 i, s2 i, Fs1 i, Fs2 i, cells_w R1.row _ (R1.ptr i hi), cells_w R2.row _ (R2.ptr i hi), R1.slab i hi, R2.slab i hi⟩
  have HS := Lib.hid hS
  have hiff : (∀ i, i < n1 → ∀ X Y, 0 ≤ X → X < side w (i % acr w) → 0 ≤ Y → Y < side h (i / acr w) → tileF f w i X Y = tileF f' w i X Y) ↔ (∀ X Y, 0 ≤ X → X < w → 0 ≤ Y → Y < h → f X Y = f' X Y) := by
    constructor
    · intro hall X Y b1 b2 b3 b4
      obtain ⟨t, _, t2, _, _, t5, t6, t7⟩ := tile_of (f := f) (x := X) (y := Y) R1.w1 R1.h1 b1 b2 b3 b4
      have h8 := hall t (by rw [R1.n_eq]; exact t2) (X % 16) (Y % 16) (by omega) t5 (by omega) t6
      obtain ⟨t', e0, _, _, _, _, _, t7'⟩ := tile_of (f := f') (x := X) (y := Y) R1.w1 R1.h1 b1 b2 b3 b4
      have et : t' = t := by omega
      rw [et] at t7'
      rw [← t7, ← t7']
      exact h8
    · intro hall i hi X Y b1 b2 b3 b4
      have hi2 : i < acr w * acr h := by rw [← R1.n_eq]; exact hi
      have e1 := acr_eq R1.w1
      have e2 := acr_eq R1.h1
      have q1 : i % acr w < acr w := Nat.mod_lt i (by omega)
      have q2 : i / acr w < acr h := Nat.div_lt_of_lt_mul hi2
      unfold tileF
      unfold side imin at b2 b4
      generalize i % acr w = p at *
      generalize i / acr w = q at *
      refine hall _ _ (by omega) ?_ (by omega) ?_
      · split at b2 <;> omega
      · split at b4 <;> omega
  have HI := Lib.hid hiff
  clear hS hiff R1 R2 bw bh hd1 hd2
  go_enter Try.func35, Try.ntmps35
  go_wp2_with fail
  refine wp_tail 29 (by kernel_rfl) (by kernel_rfl) ?_
  simp only [List.take_succ_cons, List.take_zero, List.drop_succ_cons, List.drop_zero]
  repeat (go_big_quiet_step ((first | fail)))
  refine wpQuiet_nil ?_
  intro W2 hb2
  clear a_0 a_1 a_2 a_3 b_0 b_1 b_2 b_3
  go_wp2_with fail
  refine (equal_slabs_any A1 A2 n1 cap1 cap2 _ _ _ _ W2 hnb (HS.out.below hb2)).mono ?_
  rintro e W3 ⟨r, rfl, hr, hb3⟩
  have HR := Lib.hid (hr.trans HI.out)
  clear hr
  go_wp2_with fail
  go_ret
  exact ⟨r, rfl, HR.out.trans ⟨fun hh => ⟨by trivial, by trivial, hh⟩, fun hh => hh.2.2⟩, below_next hb2 hb3⟩
end Go.Proofs.Ytgofkgmhpnkchaa
/- A level of a level; the mean between the least and the greatest: plain. -/
set_option linter.unusedVariables false
set_option linter.unusedSimpArgs false
namespace Go.Proofs.Ytgofkgmhpnkchaa

theorem down_rng {f : Int → Int → Int} {w h : Int} {k : Nat} {x y : Int} (a1 : 0 ≤ x) (a2 : x < lw w k) (a3 : 0 ≤ y) (a4 : y < lw h k) : Rng f w h k x y (downF 0 f w h k x y) (downF 1 f w h k x y) := by
  have e1 := spanN_eq a1 a2
  have e2 := spanN_eq a3 a4
  have hn : 1 ≤ spanN w k x * spanN h k y := by have := Nat.mul_le_mul e1.2.2.2.2 e2.2.2.2.2; omega
  have r := rngL_lohi (rowG f (x * 2 ^ k) (y * 2 ^ k) (spanN w k x)) (spanN w k x * spanN h k y) hn
  have q := rngL_rect (x1 := imin ((x + 1) * 2 ^ k - 1) (w - 1)) (y1 := imin ((y + 1) * 2 ^ k - 1) (h - 1)) e1.1 e2.1 r
  exact RngOn.iff q (fun u v => span_rect a1 a3)
theorem lw_lw (w : Int) (k : Nat) : lw (lw w k) 1 = lw w (k + 1) := by
  rw [← lw_succ w k]
  unfold lw
  generalize (w - 1) / 2 ^ k = q
  omega
theorem span_kid {w h x y u v : Int} {k : Nat} (hs : span w h (k + 1) x y u v) : span (lw w k) (lw h k) 1 x y (u / 2 ^ k) (v / 2 ^ k) ∧ span w h k (u / 2 ^ k) (v / 2 ^ k) u v := by
  obtain ⟨b1, b2, b3, b4, b5, b6⟩ := hs
  have c1 := div_lw (k := k) b1 b2
  have c2 := div_lw (k := k) b3 b4
  refine ⟨⟨c1.1, c1.2, c2.1, c2.2, ?_, ?_⟩, b1, b2, b3, b4, rfl, rfl⟩
  · rw [Int.pow_one, Int.ediv_ediv_of_nonneg (Int.pow_nonneg (by omega)), ← Int.pow_succ]; exact b5
  · rw [Int.pow_one, Int.ediv_ediv_of_nonneg (Int.pow_nonneg (by omega)), ← Int.pow_succ]; exact b6
theorem span_up {w h x y u v p q : Int} {k : Nat} (hs : span (lw w k) (lw h k) 1 x y p q) (ht : span w h k p q u v) : span w h (k + 1) x y u v := by
  obtain ⟨b1, b2, b3, b4, b5, b6⟩ := hs
  obtain ⟨c1, c2, c3, c4, c5, c6⟩ := ht
  subst c5 c6
  refine ⟨c1, c2, c3, c4, ?_, ?_⟩
  · rw [← b5, Int.pow_one, Int.ediv_ediv_of_nonneg (Int.pow_nonneg (by omega)), ← Int.pow_succ]
  · rw [← b6, Int.pow_one, Int.ediv_ediv_of_nonneg (Int.pow_nonneg (by omega)), ← Int.pow_succ]
theorem down_step {how : Int} (hh : how = 0 ∨ how = 1) {f : Int → Int → Int} {w h : Int} {k : Nat} {x y : Int} (a1 : 0 ≤ x) (a2 : x < lw w (k + 1)) (a3 : 0 ≤ y) (a4 : y < lw h (k + 1)) :
    downF how f w h (k + 1) x y = downF how (downF how f w h k) (lw w k) (lw h k) 1 x y := by
  have R := down_rng (f := f) a1 a2 a3 a4
  have R' := down_rng (f := downF how f w h k) (w := lw w k) (h := lw h k) (k := 1) (x := x) (y := y) a1 (by rw [lw_lw]; exact a2) a3 (by rw [lw_lw]; exact a4)
  have inn : ∀ p q, span (lw w k) (lw h k) 1 x y p q → Rng f w h k p q (downF 0 f w h k p q) (downF 1 f w h k p q) := fun p q hs => down_rng hs.1 hs.2.1 hs.2.2.1 hs.2.2.2.1
  obtain ⟨r1, ⟨u1, v1, s1, e1⟩, ⟨u2, v2, s2, e2⟩⟩ := R
  obtain ⟨t1, ⟨p1, q1, k1, g1⟩, ⟨p2, q2, k2, g2⟩⟩ := R'
  rcases hh with rfl | rfl
  · have a := span_kid s1
    have b := inn _ _ a.1
    have c := b.1 _ _ a.2
    have d := t1 _ _ a.1
    obtain ⟨_, ⟨u3, v3, s3, e3⟩, _⟩ := inn _ _ k1
    have l := r1 _ _ (span_up k1 s3)
    omega
  · have a := span_kid s2
    have b := inn _ _ a.1
    have c := b.1 _ _ a.2
    have d := t1 _ _ a.1
    obtain ⟨_, _, ⟨u3, v3, s3, e3⟩⟩ := inn _ _ k2
    have l := r1 _ _ (span_up k2 s3)
    omega
theorem sum_between {g : Nat → Int} {n : Nat} {a b : Int} (h : RngL g n a b) : ∀ j, j ≤ n → a * (j : Int) ≤ sumL g j ∧ sumL g j ≤ b * (j : Int)
  | 0, _ => by show a * ((0 : Nat) : Int) ≤ 0 ∧ 0 ≤ b * ((0 : Nat) : Int); simp
  | j + 1, hj => by
    have h1 := sum_between h j (by omega)
    have h2 := h.1 j (by omega)
    rw [sumL_step]
    push_cast
    rw [Int.mul_add, Int.mul_add, Int.mul_one, Int.mul_one]
    omega
theorem mean_between {g : Nat → Int} {n : Nat} (hn : 1 ≤ n) : loL g n ≤ meanL g n ∧ meanL g n ≤ hiL g n := by
  have h := sum_between (rngL_lohi g n hn) n (Nat.le_refl _)
  unfold meanL
  refine ⟨(Int.le_ediv_iff_mul_le (by omega)).2 h.1, ?_⟩
  have := Int.ediv_lt_of_lt_mul (a := sumL g n) (b := hiL g n + 1) (c := (n : Int)) (by omega) (by rw [Int.add_mul]; omega)
  omega
theorem down_mean {f : Int → Int → Int} {w h : Int} {k : Nat} {x y : Int} (a1 : 0 ≤ x) (a2 : x < lw w k) (a3 : 0 ≤ y) (a4 : y < lw h k) : downF 0 f w h k x y ≤ downF 2 f w h k x y ∧ downF 2 f w h k x y ≤ downF 1 f w h k x y := by
  have e1 := spanN_eq a1 a2
  have e2 := spanN_eq a3 a4
  have hn : 1 ≤ spanN w k x * spanN h k y := by have := Nat.mul_le_mul e1.2.2.2.2 e2.2.2.2.2; omega
  exact mean_between hn
theorem level0_id {how : Int} (hh : 0 ≤ how ∧ how ≤ 2) {f : Int → Int → Int} {w h x y : Int} (a1 : 0 ≤ x) (a2 : x < w) (a3 : 0 ≤ y) (a4 : y < h) : downF how f w h 0 x y = f x y := by
  have r := down_rng (f := f) (w := w) (h := h) (k := 0) (x := x) (y := y) a1 (by rw [lw0]; exact a2) a3 (by rw [lw0]; exact a4)
  have q := RngOn.unique r (rng0 a1 a2 a3 a4)
  have m := down_mean (f := f) (w := w) (h := h) (k := 0) (x := x) (y := y) a1 (by rw [lw0]; exact a2) a3 (by rw [lw0]; exact a4)
  rcases (by omega : how = 0 ∨ how = 1 ∨ how = 2) with rfl | rfl | rfl
  · exact q.1
  · exact q.2
  · omega
end Go.Proofs.Ytgofkgmhpnkchaa

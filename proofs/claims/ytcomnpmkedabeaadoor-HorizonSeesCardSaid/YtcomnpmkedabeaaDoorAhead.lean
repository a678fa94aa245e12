/- horizon.ahead: the cells in a direction, and their slopes. -/
import Derived.Test.YtcomnpmkedabeaaDoorBest
import Derived.Test.YtcomnpmkedabeaaDoorMay25
import Derived.Test.YtcomnpmkedabeaaDoorPairs
import Derived.Test.YtcomnpmkedabeaaDoorGridNew
import Derived.Deep.LoopGhost
set_option linter.unusedVariables false
set_option linter.unusedSimpArgs false
namespace Go.Proofs.YtcomnpmkedabeaaDoor
open Go.RowKit

/-- So many steps away. -/
def px (c d : Int) (j : Nat) : Int := c + (j : Int) * d
theorem px_zero (c d : Int) : px c d 0 = c := by unfold px; simp
theorem px_succ (c d : Int) (j : Nat) : px c d j + d = px c d (j + 1) := by unfold px; rw [Int.natCast_add, Int.add_mul]; omega
theorem px_bd {c d : Int} (h1 : -1 ≤ d) (h2 : d ≤ 1) (j : Nat) : c - j ≤ px c d j ∧ px c d j ≤ c + j := by
  unfold px
  rcases (by omega : d = -1 ∨ d = 0 ∨ d = 1) with rfl | rfl | rfl <;> omega
/-- A step. -/
structure Dir (dx dy : Int) : Prop where
  x1 : -1 ≤ dx
  x2 : dx ≤ 1
  y1 : -1 ≤ dy
  y2 : dy ≤ 1
  ne : dx ≠ 0 ∨ dy ≠ 0
/-- So many cells are ahead. -/
def Run (w h cx cy dx dy : Int) (n : Nat) : Prop := (∀ i, i ≤ n → inG w h (px cx dx i) (px cy dy i)) ∧ ¬ inG w h (px cx dx (n + 1)) (px cy dy (n + 1))
theorem run_ex {w h cx cy dx dy : Int} (w2 : w ≤ 1024) (h2 : h ≤ 1024) (hd : Dir dx dy) (h0 : inG w h cx cy) : ∃ n, Run w h cx cy dx dy n := by
  rcases Classical.em (∃ n, Run w h cx cy dx dy n) with hh | hh
  · exact hh
  · exfalso
    have all : ∀ n, ∀ i, i ≤ n → inG w h (px cx dx i) (px cy dy i) := by
      intro n
      induction n with
      | zero =>
        intro i hi
        have : i = 0 := by omega
        subst this
        rw [px_zero, px_zero]; exact h0
      | succ n ih =>
        intro i hi
        by_cases e : i ≤ n
        · exact ih i e
        · have : i = n + 1 := by omega
          subst this
          rcases Classical.em (inG w h (px cx dx (n + 1)) (px cy dy (n + 1))) with k | k
          · exact k
          · exact absurd ⟨n, ih, k⟩ hh
    have := all 1024 1024 (Nat.le_refl _)
    obtain ⟨k1, k2, k3, k4⟩ := this
    obtain ⟨l1, l2, l3, l4⟩ := h0
    unfold px at k1 k2 k3 k4
    obtain ⟨x1, x2, y1, y2, ne⟩ := hd
    rcases (by omega : dx = -1 ∨ dx = 0 ∨ dx = 1) with rfl | rfl | rfl <;> rcases (by omega : dy = -1 ∨ dy = 0 ∨ dy = 1) with rfl | rfl | rfl <;> omega
theorem run_le {w h cx cy dx dy : Int} {n : Nat} (w2 : w ≤ 1024) (h2 : h ≤ 1024) (hd : Dir dx dy) (H : Run w h cx cy dx dy n) : n ≤ 1023 := by
  obtain ⟨x1, x2, y1, y2, ne⟩ := hd
  have k := H.1 n (Nat.le_refl _)
  have l := H.1 0 (Nat.zero_le _)
  rw [px_zero, px_zero] at l
  obtain ⟨k1, k2, k3, k4⟩ := k
  obtain ⟨l1, l2, l3, l4⟩ := l
  unfold px at k1 k2 k3 k4
  rcases (by omega : dx = -1 ∨ dx = 0 ∨ dx = 1) with rfl | rfl | rfl <;> rcases (by omega : dy = -1 ∨ dy = 0 ∨ dy = 1) with rfl | rfl | rfl <;> omega
/-- The rise to a cell ahead. -/
def rise (f : Int → Int → Int) (cx cy dx dy eye : Int) (i : Nat) : Int := f (px cx dx i) (px cy dy i) - eye
theorem info_Slope : (Tryd.prog.info? 34).map (fun i => (i.zero, i.size, i.bytes)) = some (some (.agg #[.int .i64 0, .int .i64 0]), 2, 16) := by kernel_rfl
/-- What is ahead. -/
def AheadOut (f : Int → Int → Int) (cx cy dx dy eye : Int) (n : Nat) (W : World) (e : Ending) (W' : World) : Prop :=
  ∃ v1 v2, e = .returned (.tuple #[v1, v2]) ∧ Below W.heap.size W W' ∧ W'.ownsRow W.heap.size 24 2 v1 n (pairs (fun i => px cx dx (i + 1)) (fun i => px cy dy (i + 1)) n) ∧
    W'.ownsRow W.heap.size 34 2 v2 n (pairs (fun i => rise f cx cy dx dy eye (i + 1)) (fun i => (i : Int) + 1) n)

set_option maxHeartbeats 4000000 in
set_option maxRecDepth 100000 in
theorem ahead_ok (g : Nat) (F : Nat → Prop) (w h cx cy dx dy eye : Int) (n : Nat) (f : Int → Int → Int) (W : World) (H : GridAt W g F w h f) (hmay : ∀ x y, inG w h x y → -2147483648 ≤ f x y ∧ f x y ≤ 2147483647) (he1 : -4294967296 ≤ eye) (he2 : eye ≤ 4294967296) (hd : Dir dx dy) (hr : Run w h cx cy dx dy n) :
    Calls Tryd.prog 20 #[.pointer (some ⟨g, 0, none⟩), .agg #[.int .i64 cx, .int .i64 cy], .int .i64 eye, .agg #[.int .i64 dx, .int .i64 dy]] W (AheadOut f cx cy dx dy eye n W) := by
  obtain ⟨d1, d2, d3, d4⟩ := H.dims
  have hn := run_le d2 d4 hd hr
  obtain ⟨x1, x2, y1, y2, ne⟩ := hd
  have h0 := hr.1 0 (Nat.zero_le _)
  rw [px_zero, px_zero] at h0
  obtain ⟨b1, b2, b3, b4⟩ := h0
  have HR := Lib.hid hr
  have HF : Hid (∀ k, F k → k < W.heap.size) := H.lt
  have HMAY := Lib.hid hmay
  clear ne hr hmay
  go_enter Tryd.func20, Tryd.ntmps20
  go_wp2_with fail
  have n0 := below_blk (below_alloc1 _ (.cells #[.int .i64 dx, .int .i64 dy] 24)) (blk_new W (.cells #[.int .i64 cx, .int .i64 cy] 24))
  have n1 := blk_new2 W (.cells #[.int .i64 cx, .int .i64 cy] 24) (.cells #[.int .i64 dx, .int .i64 dy] 24)
  have hB := below_alloc (below_alloc1 W (.cells #[.int .i64 cx, .int .i64 cy] 24)) (.cells #[.int .i64 dx, .int .i64 dy] 24)
  have H2 := H.below hB
  obtain ⟨w2, hw2⟩ : ∃ w2, (W.alloc (.cells #[.int .i64 cx, .int .i64 cy] 24)).alloc (.cells #[.int .i64 dx, .int .i64 dy] 24) = w2 := ⟨_, rfl⟩
  have hs2 : w2.heap.size = W.heap.size + 2 := by rw [← hw2]; simp
  rw [hw2] at n0 n1 hB H2 ⊢
  obtain ⟨C, hC⟩ : ∃ C, W.heap.size = C := ⟨_, rfl⟩
  have HC : Hid (∀ k, F k → k ≠ C) := fun k hk e => by have := HF.out k hk; omega
  have hCW := Lib.hid hC
  rw [hC] at n0 n1 hs2
  rw [hC]
  clear hw2 H hC
  go_loopg [10, 11, 12] n (fun q v10 v11 v12 wr => ∃ j : Nat, Hid (j + q = n) ∧ v12 = .int .i64 ((j : Int) + 1) ∧ Mod (fun k => k = C) w2 wr ∧ wr.heap[C]? = some (.cells #[.int .i64 (px cx dx j), .int .i64 (px cy dy j)] 24 (0, 0)) ∧
    Hid (wr.ownsRow w2.heap.size 24 2 v10 j (pairs (fun i => px cx dx (i + 1)) (fun i => px cy dy (i + 1)) j)) ∧ Hid (wr.ownsRow w2.heap.size 34 2 v11 j (pairs (fun i => rise f cx cy dx dy eye (i + 1)) (fun i => (i : Int) + 1) j)) ∧ Hid (∀ k, v10.ownBlock = some k → v11.ownBlock ≠ some k))
  case atStart =>
    exact ⟨0, Nat.zero_add _, rfl, Mod.refl _ _, by rw [px_zero, px_zero]; exact n0, Lib.hid (by simpa [pairs] using World.ownsRow_nil w2 w2.heap.size 24 2), Lib.hid (by simpa [pairs] using World.ownsRow_nil w2 w2.heap.size 34 2), fun k hk => by cases hk⟩
  case round =>
    obtain ⟨j, hj, rfl, hmod, nC, HO1, HO2, HD⟩ := hrel
    have hjn : j ≤ n := by have := hj.out; omega
    have q1 := px_bd (c := cx) x1 x2 j
    have q2 := px_bd (c := cy) y1 y2 j
    have s1 := px_succ cx dx j
    have s2 := px_succ cy dy j
    have wx : wrap64 (px cx dx j + dx) = px cx dx (j + 1) := by rw [wrap64_id (by omega) (by omega)]; exact s1
    have wy : wrap64 (px cy dy j + dy) = px cy dy (j + 1) := by rw [wrap64_id (by omega) (by omega)]; exact s2
    have HS := Lib.hid (And.intro s1 s2)
    have hHr := H2.mod hmod HC.out
    have nD := hmod.blk n1 (show ¬ (C + 1 = C) by omega)
    have hszr := hmod.size
    have i_0 := cells_w nC 0 rfl
    have i_1 := cells_w nC 1 rfl
    have z_0 := blk_frozen nC 0
    have z_1 := blk_frozen nC 1
    have l_0 := cells_w nD 0 rfl
    have l_1 := cells_w nD 1 rfl
    generalize hX : px cx dx (j + 1) = X at *
    generalize hY : px cy dy (j + 1) = Y at *
    have HX := Lib.hid (And.intro hX hY)
    clear hX hY q1 q2 s1 s2
    go_wp2_with fail
    have nC2 := blk_set (blk_set nC 0 (.int .i64 X)) 1 (.int .i64 Y)
    have hM2 := (hmod.setCell (p := ⟨C, 0, none⟩) (.inl rfl) (.int .i64 X)).setCell (p := ⟨C, 1, none⟩) (.inl rfl) (.int .i64 Y)
    have hMs := ((Mod.refl (fun k => k = C) wr).setCell (p := ⟨C, 0, none⟩) (.inl rfl) (.int .i64 X)).setCell (p := ⟨C, 1, none⟩) (.inl rfl) (.int .i64 Y)
    obtain ⟨w4, hw4⟩ : ∃ w4, (wr.setCell ⟨C, 0, none⟩ (.int .i64 X)).setCell ⟨C, 1, none⟩ (.int .i64 Y) = w4 := ⟨_, rfl⟩
    rw [hw4] at nC2 hM2 hMs ⊢
    have nC3 : w4.heap[C]? = some (.cells #[.int .i64 X, .int .i64 Y] 24 (0, 0)) := by simpa using nC2
    have oC1 : ∀ k, u10.ownBlock = some k → ¬ (k = C) := fun k hk e => by have := (HO1.out.lt k hk).1; omega
    have oC2 : ∀ k, u11.ownBlock = some k → ¬ (k = C) := fun k hk e => by have := (HO2.out.lt k hk).1; omega
    have HO1' := Lib.hid (own_keep HO1.out hMs oC1)
    have HO2' := Lib.hid (own_keep HO2.out hMs oC2)
    have HG4 := H2.mod hM2 HC.out
    clear hw4 nC2 hMs oC1 oC2 HO1 HO2 i_0 i_1 z_0 z_1 l_0 l_1 nC hHr wx wy hmod hszr
    refine (grid_At_any g F w h X Y f w4 HG4).mono ?_
    rintro e w5 ⟨rfl, hb⟩
    have nC5 := below_blk hb nC3
    have HO1 := Lib.hid (own_below HO1'.out hb)
    have HO2 := Lib.hid (own_below HO2'.out hb)
    have hM5 := hM2.then_below hb
    clear hb nC3 HO1' HO2' hM2 HG4
    cases gk with
    | zero =>
      have ej : j = n := hj.out
      have hout : ¬ inG w h X Y := by rw [← HX.out.1, ← HX.out.2, ej]; exact HR.out.2
      rw [atV_out hout, atC_out hout]
      clear hout
      go_wp2_with fail
      go_ret2
      subst ej
      have hb5 : Below W.heap.size W w5 := hB.trans (hM5.below (Nat.le_trans hB.size (Nat.le_refl _)) (fun k hk => by have := hCW.out; omega))
      exact ⟨_, _, rfl, hb5, own_mono HO1.out hB.size, own_mono HO2.out hB.size⟩
    | succ m =>
      have hlt : j + 1 ≤ n := by have := hj.out; omega
      have hin : inG w h X Y := by rw [← HX.out.1, ← HX.out.2]; exact HR.out.1 (j + 1) hlt
      rw [atV_in hin, atC_in hin]
      have hfb := HMAY.out X Y hin
      have hris : rise f cx cy dx dy eye (j + 1) = f X Y - eye := by unfold rise; rw [HX.out.1, HX.out.2]
      have HRI := Lib.hid hris
      have we : wrap64 (f X Y - eye) = f X Y - eye := wrap64_id (by omega) (by omega)
      obtain ⟨U, hU⟩ : ∃ U, f X Y - eye = U := ⟨_, rfl⟩
      rw [hU] at we
      have HU := Lib.hid hU
      have hsz5 := hM5.size
      clear hin hris
      have i_0 := cells_w nC5 0 rfl
      have i_1 := cells_w nC5 1 rfl
      go_wp2_with (at_builtin; refine append_own w2.heap.size rfl (.tmp 38) (.tmp 40) 58 24 _ 2 16 rfl Tryd.underlying58 info_Cell rfl (by omega) _ _ _ [.int .i64 X, .int .i64 Y] rfl _ rfl (by simp) rfl ?_ HO1.out (by omega) (by omega) (by omega) ?_)
      · intro t ht; simp at ht; rcases ht with rfl | rfl <;> rfl
      · intro v1 w6 hown6 hM6 hblk6 hnn6
        have HO2b := Lib.hid (own_keep HO2.out hM6 (fun k hk => fun e => HD.out k e hk))
        have nC6 := hM6.blk nC5 (fun e => by have := (HO1.out.lt C e).1; omega)
        have HD6 : Hid (∀ k, v1.ownBlock = some k → u11.ownBlock ≠ some k) := fun k hk e => (hblk6 k hk).elim (fun z => HD.out k z e) (fun z => by have := (HO2.out.lt k e).2; omega)
        have hMM6 : Mod (fun k => k = C) w2 w6 := hM5.trans hM6 (fun k hk => .inr ((HO1.out.lt k hk).1))
        have HO1b := Lib.hid hown6
        have hsz6 := hMM6.size
        clear hM6 hblk6 hnn6 HO1 HO2 hown6 HD i_0 i_1 nC5 hM5
        go_wp2_with (at_builtin; refine append_own w2.heap.size rfl (.tmp 42) (.tmp 48) 43 34 _ 2 16 rfl Tryd.underlying43 info_Slope rfl (by omega) _ _ _ [.int .i64 U, .int .i64 ((j : Int) + 1)] rfl _ rfl (by simp) rfl ?_ HO2b.out (by omega) (by omega) (by omega) ?_)
        · intro t ht; simp at ht; rcases ht with rfl | rfl <;> rfl
        · intro v2 w7 hown7 hM7 hblk7 hnn7
          have HO1c := Lib.hid (own_keep HO1b.out hM7 (fun k hk => HD6.out k hk))
          have nC7 := hM7.blk nC6 (fun e => by have := (HO2b.out.lt C e).1; omega)
          have HD7 : Hid (∀ k, v1.ownBlock = some k → v2.ownBlock ≠ some k) := fun k hk e => (hblk7 k e).elim (fun z => HD6.out k hk z) (fun z => by have := (HO1b.out.lt k hk).2; omega)
          have hMM7 : Mod (fun k => k = C) w2 w7 := hMM6.trans hM7 (fun k hk => .inr ((HO2b.out.lt k hk).1))
          have HO2c := Lib.hid hown7
          clear hM7 hblk7 hnn7 HO1b HO2b hown7 HD6 nC6 hMM6
          go_wp2_with fail
          go_roundg m
          case measure => omega
          case rel =>
            refine ⟨j + 1, by have := hj.out; exact (show j + 1 + m = n by omega), congrArg (Value.int .i64) (by push_cast; omega), hMM7, by rw [HX.out.1, HX.out.2]; exact nC7, ?_, ?_, HD7.out⟩
            · rw [pairs_succ, HX.out.1, HX.out.2, hs2]; exact HO1c
            · rw [pairs_succ, HRI.out, HU.out, hs2]; exact HO2c
end Go.Proofs.YtcomnpmkedabeaaDoor

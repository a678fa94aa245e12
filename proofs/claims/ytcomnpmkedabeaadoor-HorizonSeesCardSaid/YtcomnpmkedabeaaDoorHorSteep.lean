/- horizon.Steepest. -/
import Derived.Test.YtcomnpmkedabeaaDoorAhead
import Derived.Test.YtcomnpmkedabeaaDoorMid
import Derived.Test.YtcomnpmkedabeaaDoorNewCell
import Derived.BigRegion
set_option linter.unusedVariables false
set_option linter.unusedSimpArgs false
namespace Go.Proofs.YtcomnpmkedabeaaDoor
open Go.RowKit

section
variable {P : Program} {fn : Func} {p p2 u v ty ty2 t t2 g g2 : Nat} {tmps cs cs2 : Array Value} {w : World} {fr fr2 : Nat × Nat}
theorem res_cctt (h : fn.results = #[.cell p ty, .cell p2 ty2, .tmp u, .tmp v]) (hp : tmps.getD p undef = .pointer (some ⟨g, 0, none⟩)) (hg : w.heap[g]? = some (.cells cs t fr)) {m : Nat} (hS : AggTy P ty m) (hm : cs.size = m)
    (hp2 : tmps.getD p2 undef = .pointer (some ⟨g2, 0, none⟩)) (hg2 : w.heap[g2]? = some (.cells cs2 t2 fr2)) {m2 : Nat} (hS2 : AggTy P ty2 m2) (hm2 : cs2.size = m2) :
    (results fn tmps).run P w = .ok (.tuple #[.agg cs, .agg cs2, tmps.getD u undef, tmps.getD v undef]) w := by
  subst hm hm2
  have hp' : tmps[p]?.getD undef = .pointer (some ⟨g, 0, none⟩) := by simpa using hp
  have hp2' : tmps[p2]?.getD undef = .pointer (some ⟨g2, 0, none⟩) := by simpa using hp2
  simp [results, h, hp', hp2', asAddr, hS.load hg, hS2.load hg2]
end
theorem own_slice {W : World} {base n size : Nat} {e : TypeId} {v : Value} {xs : List Value} (h : W.ownsRow base e size v n xs) : ∃ o cap, v = .slice o n cap := by
  obtain ⟨h0, ⟨h1, h2⟩ | ⟨k, cap, cs, h1, h2⟩⟩ := h
  · exact ⟨none, 0, by rw [h1, h2]⟩
  · exact ⟨_, cap, h1⟩
def dX (k : Nat) : Int := [0, 1, 1, 1, 0, -1, -1, -1].getD k 0
def dY (k : Nat) : Int := [-1, -1, 0, 1, 1, 1, 0, -1].getD k 0
theorem dir_ok {k : Nat} (h : k < 8) : Dir (dX k) (dY k) := by
  rcases (by omega : k = 0 ∨ k = 1 ∨ k = 2 ∨ k = 3 ∨ k = 4 ∨ k = 5 ∨ k = 6 ∨ k = 7) with rfl | rfl | rfl | rfl | rfl | rfl | rfl | rfl <;> exact ⟨by decide, by decide, by decide, by decide, by decide⟩
/-- The table of steps. -/
def StepsAt (W : World) : Prop := ∀ k, k < 8 → W.cell? ⟨0, k * 2, none⟩ = some (.int .i64 (dX k)) ∧ W.cell? ⟨0, k * 2 + 1, none⟩ = some (.int .i64 (dY k))
theorem StepsAt.below {W W' : World} (H : StepsAt W) (hb : Below W.heap.size W W') : StepsAt W' := fun k hk => ⟨below_cell hb (H k hk).1, below_cell hb (H k hk).2⟩
/-- A direction's error. -/
def steepC (w h x y hi dir : Int) : Int := if mayC w h x y hi = 0 then (if 0 ≤ dir ∧ dir ≤ 7 then 0 else 11) else mayC w h x y hi
theorem steepC_0 {w h x y hi dir : Int} : steepC w h x y hi dir = 0 ↔ mayC w h x y hi = 0 ∧ 0 ≤ dir ∧ dir ≤ 7 := by
  unfold steepC
  constructor
  · intro h
    split at h
    · split at h
      · rename_i a b; exact ⟨a, b⟩
      · simp at h
    · rename_i a; exact absurd h a
  · intro h
    rw [if_pos h.1, if_pos h.2]
/-- The best one's rise, place. -/
def bUp (f : Int → Int → Int) (cx cy dx dy eye : Int) (n : Nat) : Int := if best (rise f cx cy dx dy eye) n = 0 then 0 else rise f cx cy dx dy eye (best (rise f cx cy dx dy eye) n)
def bAt (up : Nat → Int) (c d : Int) (n : Nat) : Int := if best up n = 0 then 0 else px c d (best up n)
/-- The answer, of a direction with n cells. -/
def BestOut (f : Int → Int → Int) (cx cy dx dy eye : Int) (n : Nat) (W : World) (e : Ending) (W' : World) : Prop :=
  e = .returned (.tuple #[.agg #[.int .i64 (bUp f cx cy dx dy eye n), .int .i64 ((best (rise f cx cy dx dy eye) n : Nat) : Int)], .agg #[.int .i64 (bAt (rise f cx cy dx dy eye) cx dx n), .int .i64 (bAt (rise f cx cy dx dy eye) cy dy n)], .bool (decide (0 < best (rise f cx cy dx dy eye) n)), .int .i64 0]) ∧ Below W.heap.size W W'

set_option maxHeartbeats 4000000 in
set_option maxRecDepth 100000 in
theorem hor_steep_bad (g : Nat) (F : Nat → Prop) (w h x y hi dir : Int) (f : Int → Int → Int) (W : World) (H : GridAt W g F w h f) (hf : inG w h x y → -2147483648 ≤ f x y ∧ f x y ≤ 2147483647) (hc : steepC w h x y hi dir ≠ 0) :
    Calls Tryd.prog 9 #[.pointer (some ⟨g, 0, none⟩), .agg #[.int .i64 x, .int .i64 y], .int .i64 hi, .int .i64 dir] W
      fun e W' => e = .returned (.tuple #[.agg #[.int .i64 0, .int .i64 0], .agg #[.int .i64 0, .int .i64 0], .bool false, .int .i64 (steepC w h x y hi dir)]) ∧ Below W.heap.size W W' := by
  have HC := Lib.hid hc
  clear hc
  go_enter Tryd.func9, Tryd.ntmps9
  go_wp2_with fail
  have nA := blk_new2 W (.cells #[.int .i64 x, .int .i64 y] 24) (.cells #[.int .i64 0, .int .i64 0] 34)
  have nB := blk_new2 (W.alloc (.cells #[.int .i64 x, .int .i64 y] 24)) (.cells #[.int .i64 0, .int .i64 0] 34) (.cells #[.int .i64 0, .int .i64 0] 24)
  rw [alloc_size] at nB
  replace nA := below_blk (below_alloc1 _ (.cells #[.int .i64 0, .int .i64 0] 24)) nA
  have hB := below_alloc (below_alloc (below_alloc1 W (.cells #[.int .i64 x, .int .i64 y] 24)) (.cells #[.int .i64 0, .int .i64 0] 34)) (.cells #[.int .i64 0, .int .i64 0] 24)
  refine (hor_check_any g F w h x y hi f _ (H.below hB) hf).mono ?_
  rintro e w2 ⟨rfl, hb⟩
  replace nA := below_blk hb nA
  replace nB := below_blk hb nB
  replace hB := below_next hB hb
  clear hb
  have i_0 := cells_w nA 0 rfl
  have i_1 := cells_w nA 1 rfl
  have j_0 := cells_w nB 0 rfl
  have j_1 := cells_w nB 1 rfl
  have p_0 := blk_frozen nA 0
  have p_1 := blk_frozen nA 1
  have q_0 := blk_frozen nB 0
  have q_1 := blk_frozen nB 1
  by_cases hm : mayC w h x y hi = 0
  · have hs : steepC w h x y hi dir = 11 := by
      have := HC.out
      unfold steepC at this ⊢
      rw [if_pos hm] at this ⊢
      split at this
      · simp at this
      · rename_i a; rw [if_neg a]
    have hd : ¬ (0 ≤ dir ∧ dir ≤ 7) := fun z => HC.out (steepC_0.2 ⟨hm, z⟩)
    have hmb : (mayC w h x y hi == 0) = true := by simp [hm]
    have hmb2 : (mayC w h x y hi != 0) = false := by simp [hm]
    rw [hm]
    have HS := Lib.hid hs
    clear hs hmb hmb2 hm
    by_cases k1 : dir < 0
    · have t1 := decide_eq_true k1
      go_wp2_with fail
      refine bodyPost_ret (res_cctt rfl rfl (blk_set_ne (blk_set_ne (blk_set (blk_set nA 0 _) 1 _) _ (by simp) _) _ (by simp) _) agg_Slope rfl rfl (blk_set (blk_set (blk_set_ne (blk_set_ne nB _ (by simp) _) _ (by simp) _) 0 _) 1 _) agg_Cell rfl) rfl ?_
      refine ⟨?_, (((hB.setCell (by first | (simp; done) | (simp; omega)) _).setCell (by first | (simp; done) | (simp; omega)) _).setCell (by first | (simp; done) | (simp; omega)) _).setCell (by first | (simp; done) | (simp; omega)) _⟩
      rw [HS.out]; rfl
    · have t1 := decide_eq_false k1
      have t2 : decide (8 ≤ dir) = true := decide_eq_true (by omega)
      go_wp2_with fail
      refine bodyPost_ret (res_cctt rfl rfl (blk_set_ne (blk_set_ne (blk_set (blk_set nA 0 _) 1 _) _ (by simp) _) _ (by simp) _) agg_Slope rfl rfl (blk_set (blk_set (blk_set_ne (blk_set_ne nB _ (by simp) _) _ (by simp) _) 0 _) 1 _) agg_Cell rfl) rfl ?_
      refine ⟨?_, (((hB.setCell (by first | (simp; done) | (simp; omega)) _).setCell (by first | (simp; done) | (simp; omega)) _).setCell (by first | (simp; done) | (simp; omega)) _).setCell (by first | (simp; done) | (simp; omega)) _⟩
      rw [HS.out]; rfl
  · have hs : steepC w h x y hi dir = mayC w h x y hi := by unfold steepC; rw [if_neg hm]
    have hmb : (mayC w h x y hi == 0) = false := by simp [hm]
    have hmb2 : (mayC w h x y hi != 0) = true := by simp [hm]
    have HS := Lib.hid hs
    clear hs hm
    go_wp2_with fail
    refine bodyPost_ret (res_cctt rfl rfl (blk_set_ne (blk_set_ne (blk_set (blk_set nA 0 _) 1 _) _ (by simp) _) _ (by simp) _) agg_Slope rfl rfl (blk_set (blk_set (blk_set_ne (blk_set_ne nB _ (by simp) _) _ (by simp) _) 0 _) 1 _) agg_Cell rfl) rfl ?_
    refine ⟨?_, (((hB.setCell (by first | (simp; done) | (simp; omega)) _).setCell (by first | (simp; done) | (simp; omega)) _).setCell (by first | (simp; done) | (simp; omega)) _).setCell (by first | (simp; done) | (simp; omega)) _⟩
    rw [HS.out]; rfl

set_option maxHeartbeats 4000000 in
set_option maxRecDepth 100000 in
theorem hor_steep_ok (g : Nat) (F : Nat → Prop) (w h x y hi : Int) (k n : Nat) (f : Int → Int → Int) (W : World) (H : GridAt W g F w h f) (hmay : ∀ x y, inG w h x y → -2147483648 ≤ f x y ∧ f x y ≤ 2147483647) (hst : StepsAt W) (hc : mayC w h x y hi = 0) (hk : k < 8)
    (hr : Run w h x y (dX k) (dY k) n) :
    Calls Tryd.prog 9 #[.pointer (some ⟨g, 0, none⟩), .agg #[.int .i64 x, .int .i64 y], .int .i64 hi, .int .i64 (k : Int)] W (BestOut f x y (dX k) (dY k) (f x y + hi) n W) := by
  have hd := dir_ok hk
  have hn := run_le H.dims.2.1 H.dims.2.2.2 hd hr
  obtain ⟨hin, i1, i2⟩ := mayC_0.1 hc
  have hfb := hmay x y hin
  have he : eyeV f w h x y hi = f x y + hi := by unfold eyeV; rw [if_pos hc]
  obtain ⟨eye, heye⟩ : ∃ eye, f x y + hi = eye := ⟨_, rfl⟩
  rw [heye] at he ⊢
  have he1 : -4294967296 ≤ eye := by omega
  have he2 : eye ≤ 4294967296 := by omega
  have hu : ∀ i, 1 ≤ i → i ≤ n → -1099511627776 ≤ rise f x y (dX k) (dY k) eye i ∧ rise f x y (dX k) (dY k) eye i ≤ 1099511627776 := fun i _ h2 => by
    have := hmay _ _ (hr.1 i h2)
    unfold rise
    omega
  have HU := Lib.hid hu
  have HR := Lib.hid hr
  have HD := Lib.hid hd
  have HMAY := Lib.hid hmay
  clear hu hr hd hin hfb heye
  have hchk := hor_check_any g F w h x y hi f
  rw [hc, he] at hchk
  have HCHK := Lib.hid (fun W H => hchk W H (hmay x y))
  clear hchk hmay hc he
  go_enter Tryd.func9, Tryd.ntmps9
  go_wp2_with fail
  have nC := below_blk (below_alloc (below_alloc1 _ (.cells #[.int .i64 0, .int .i64 0] 34)) (.cells #[.int .i64 0, .int .i64 0] 24)) (blk_new W (.cells #[.int .i64 x, .int .i64 y] 24))
  have nA := blk_new2 W (.cells #[.int .i64 x, .int .i64 y] 24) (.cells #[.int .i64 0, .int .i64 0] 34)
  have nB := blk_new2 (W.alloc (.cells #[.int .i64 x, .int .i64 y] 24)) (.cells #[.int .i64 0, .int .i64 0] 34) (.cells #[.int .i64 0, .int .i64 0] 24)
  rw [alloc_size] at nB
  replace nA := below_blk (below_alloc1 _ (.cells #[.int .i64 0, .int .i64 0] 24)) nA
  have hB := below_alloc (below_alloc (below_alloc1 W (.cells #[.int .i64 x, .int .i64 y] 24)) (.cells #[.int .i64 0, .int .i64 0] 34)) (.cells #[.int .i64 0, .int .i64 0] 24)
  refine (HCHK.out _ (H.below hB)).mono ?_
  rintro e w2 ⟨rfl, hb⟩
  replace nA := below_blk hb nA
  replace nB := below_blk hb nB
  replace nC := below_blk hb nC
  replace hB := below_next hB hb
  clear hb
  have t1 : decide ((k : Int) < 0) = false := decide_eq_false (by omega)
  have t2 : decide ((8 : Int) ≤ (k : Int)) = false := decide_eq_false (by omega)
  have t3 : decide (8 ≤ k) = false := decide_eq_false (by omega)
  have HG2 := Lib.hid (H.below hB)
  obtain ⟨c1, c2⟩ := hst.below hB k hk
  have e1 := fun d os => cell_regrown c1 d os
  have e2 := fun d os => cell_regrown c2 d os
  have kk : (k : Int) < 8 := by omega
  go_wp2_with fail
  have i_0 := cells_q nC 0 rfl
  have i_1 := cells_q nC 1 rfl
  refine wp_mid 6 _ _ (by kernel_rfl) (by kernel_rfl) rfl rfl ?_
  simp only [List.take_succ_cons, List.take_zero]
  repeat (go_big_quiet_step ((first | fail)))
  refine wpQuiet_nil ?_
  intro w3 hb3
  clear i_0 i_1 e1 e2 c1 c2 kk t1 t2 t3
  replace nA := below_blk hb3 nA
  replace nB := below_blk hb3 nB
  replace hB := below_next hB hb3
  have HG3 := HG2.out.below hb3
  have lB := blk_lt nB
  have lw3 : W.heap.size + 1 + 1 < w3.heap.size := lB
  have LW3 := Lib.hid lw3
  clear hb3 HG2 nC lB lw3
  go_simp
  go_at_call 20
  refine (ahead_ok g F w h x y (dX k) (dY k) eye n f w3 HG3 HMAY.out he1 he2 HD.out HR.out).mono ?_
  rintro e w4 ⟨v1, v2, rfl, hb4, HO1, HO2⟩
  replace nA := below_blk hb4 nA
  replace nB := below_blk hb4 nB
  replace hB := below_next hB hb4
  clear hb4
  dsimp only
  unfold MidK
  repeat (go_big_quiet_step ((first | fail)))
  refine wpQuiet_nil ?_
  intro w5 hb5
  replace nA := below_blk hb5 nA
  replace nB := below_blk hb5 nB
  replace hB := below_next hB hb5
  replace HO1 := own_below HO1 hb5
  replace HO2 := own_below HO2 hb5
  clear hb5 HG3
  rcases Nat.eq_zero_or_pos n with n0 | n1
  · subst n0
    obtain ⟨o2, cap2, rfl⟩ := own_slice HO2
    clear HO1 HO2
    go_wp2_with fail
    refine (steepest_none cap2 o2 w5).mono ?_
    rintro e w6 ⟨rfl, hb6⟩
    replace nA := below_blk hb6 nA
    replace nB := below_blk hb6 nB
    replace hB := below_next hB hb6
    clear hb6
    have i_0 := cells_w nA 0 rfl
    have i_1 := cells_w nA 1 rfl
    have j_0 := cells_w nB 0 rfl
    have j_1 := cells_w nB 1 rfl
    have p_0 := blk_frozen nA 0
    have p_1 := blk_frozen nA 1
    have q_0 := blk_frozen nB 0
    have q_1 := blk_frozen nB 1
    go_wp2_with fail
    refine bodyPost_ret (res_cctt rfl rfl (blk_set_ne (blk_set_ne (blk_set (blk_set nA 0 _) 1 _) _ (by simp) _) _ (by simp) _) agg_Slope rfl rfl (blk_set (blk_set (blk_set_ne (blk_set_ne nB _ (by simp) _) _ (by simp) _) 0 _) 1 _) agg_Cell rfl) rfl ?_
    exact ⟨rfl, (((hB.setCell (by first | (simp; done) | (simp; omega)) _).setCell (by first | (simp; done) | (simp; omega)) _).setCell (by first | (simp; done) | (simp; omega)) _).setCell (by first | (simp; done) | (simp; omega)) _⟩
  · obtain ⟨k1, cap1, rfl, lc1, g1, hcl⟩ := pairs_cells HO1 (by omega)
    obtain ⟨k2, cap2, rfl, lc2, g2, hsl⟩ := pairs_cells HO2 (by omega)
    have HCL := Lib.hid hcl
    have HSL : Hid (SlopesAt w5 k2 n (rise f x y (dX k) (dY k) eye)) := fun q hq => hsl q hq
    clear hcl hsl HO1 HO2
    go_wp2_with fail
    refine (steepest_ok k2 n cap2 (rise f x y (dX k) (dY k) eye) w5 n1 (by omega) HU.out HSL.out).mono ?_
    rintro e w6 ⟨rfl, hb6⟩
    replace nA := below_blk hb6 nA
    replace nB := below_blk hb6 nB
    replace hB := below_next hB hb6
    have bl := best_le (rise f x y (dX k) (dY k) eye) n
    have bp := best_pos (rise f x y (dX k) (dY k) eye) n n1
    obtain ⟨b, hbe⟩ : ∃ b, best (rise f x y (dX k) (dY k) eye) n - 1 = b := ⟨_, rfl⟩
    rw [hbe]
    have hbest : best (rise f x y (dX k) (dY k) eye) n = b + 1 := by omega
    have hbn : b < n := by omega
    have hbn2 : (b : Int) < (n : Int) := by omega
    obtain ⟨d1, d2⟩ := (HSL.out.below hb6) b hbn
    obtain ⟨c1, c2⟩ := HCL.out b hbn
    replace c1 := below_cell hb6 c1
    replace c2 := below_cell hb6 c2
    have qd1 := fun d os => cell_regrown d1 d os
    have qd2 := fun d os => cell_regrown d2 d os
    have qc1 := fun d os => cell_regrown c1 d os
    have qc2 := fun d os => cell_regrown c2 d os
    have hbc2 : b ≤ cap2 := by omega
    have HBE := Lib.hid hbest
    have ne1 : k1 ≠ W.heap.size + 1 := by have := LW3.out; omega
    have ne2 : k2 ≠ W.heap.size + 1 := by have := LW3.out; omega
    have ne3 : k1 ≠ W.heap.size + 1 + 1 := by have := LW3.out; omega
    have ne4 : k2 ≠ W.heap.size + 1 + 1 := by have := LW3.out; omega
    clear hb6 hbe hbest bl bp qd1 qd2 qc1 qc2 g1 g2
    have i_0 := cells_w nA 0 rfl
    have i_1 := cells_w nA 1 rfl
    have j_0 := cells_w nB 0 rfl
    have j_1 := cells_w nB 1 rfl
    have p_0 := blk_frozen nA 0
    have p_1 := blk_frozen nA 1
    have q_0 := blk_frozen nB 0
    have q_1 := blk_frozen nB 1
    go_wp2_with fail
    go_region
    go_wp2_with fail
    refine bodyPost_ret (res_cctt rfl rfl (blk_drew (blk_set_ne (blk_set_ne (blk_set (blk_set nA 0 _) 1 _) _ (by simp) _) _ (by simp) _)) agg_Slope rfl rfl (blk_drew (blk_set (blk_set (blk_set_ne (blk_set_ne nB _ (by simp) _) _ (by simp) _) 0 _) 1 _)) agg_Cell rfl) rfl ?_
    refine ⟨?_, below_drew1 ((((hB.setCell (by first | (simp; done) | (simp; omega)) _).setCell (by first | (simp; done) | (simp; omega)) _).setCell (by first | (simp; done) | (simp; omega)) _).setCell (by first | (simp; done) | (simp; omega)) _)⟩
    unfold bUp bAt
    rw [HBE.out, if_neg (by omega), if_neg (by omega), if_neg (by omega), show decide (0 < b + 1) = true from decide_eq_true (by omega)]
    push_cast
    rfl
end Go.Proofs.YtcomnpmkedabeaaDoor

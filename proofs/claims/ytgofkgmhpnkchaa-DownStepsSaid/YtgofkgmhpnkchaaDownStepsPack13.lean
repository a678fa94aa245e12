/- Texts of this claim, joined: PyrAt, Join. -/
import Derived.Test.YtgofkgmhpnkchaaDownStepsPack5
import Derived.Test.YtgofkgmhpnkchaaDownStepsPack12
import Derived.Deep.LoopGhost
/- A pyramid in memory; pyr.Levels, Size, At. -/
set_option linter.unusedVariables false
set_option linter.unusedSimpArgs false
namespace Go.Proofs.Ytgofkgmhpnkchaa
open Go.RowKit

/-- A level's cells in a block. -/
def CellsAt (W : World) (b : Nat) (w h : Int) (R : Int → Int → Int → Int → Prop) : Prop :=
  ∃ cs, W.heap[b]? = some (.cells cs 39 (0, 0)) ∧ ∀ x y, 0 ≤ x → x < w → 0 ≤ y → y < h → ∃ a c, cs[(y * w + x).toNat * 2]? = some (.int .i64 a) ∧ cs[(y * w + x).toNat * 2 + 1]? = some (.int .i64 c) ∧ R x y a c
theorem CellsAt.keep {W W' : World} {b : Nat} {w h : Int} {R : Int → Int → Int → Int → Prop} (H : CellsAt W b w h R) (he : W'.heap[b]? = W.heap[b]?) : CellsAt W' b w h R := by
  obtain ⟨cs, h1, h2⟩ := H
  exact ⟨cs, he.trans h1, h2⟩
theorem CellsAt.weaken {W : World} {b : Nat} {w h : Int} {R R' : Int → Int → Int → Int → Prop} (H : CellsAt W b w h R) (he : ∀ x y a c, 0 ≤ x → x < w → 0 ≤ y → y < h → R x y a c → R' x y a c) : CellsAt W b w h R' := by
  obtain ⟨cs, h1, h2⟩ := H
  refine ⟨cs, h1, fun x y a1 a2 a3 a4 => ?_⟩
  obtain ⟨a, c, k1, k2, k3⟩ := h2 x y a1 a2 a3 a4
  exact ⟨a, c, k1, k2, he x y a c a1 a2 a3 a4 k3⟩
/-- The number of a level's cells. -/
def area (w h : Int) (k : Nat) : Nat := (lw w k * lw h k).toNat
/-- A pyramid, all that lies in memory. -/
structure PyrRaw (W : World) (p : Nat) (F : Nat → Prop) (w h : Int) (R : Nat → Int → Int → Int → Int → Prop) (A cap : Nat) (ps : Array Value) (s : Nat → Nat) : Prop where
  w1 : 1 ≤ w
  w2 : w ≤ 1024
  h1 : 1 ≤ h
  h2 : h ≤ 1024
  own : F p
  owna : F A
  owns : ∀ k, k < levs w h → F (s k)
  lt : ∀ k, F k → k < W.heap.size
  ne : p ≠ A
  nep : ∀ k, k < levs w h → s k ≠ p ∧ s k ≠ A
  inj : ∀ k j, k < levs w h → j < levs w h → k ≠ j → s k ≠ s j
  cap_le : levs w h ≤ cap
  head : W.heap[p]? = some (.cells #[.slice (some ⟨A, 0, none⟩) (levs w h) cap] 90 (0, 0))
  row : W.heap[A]? = some (.cells ps 97 (0, 0))
  lev : ∀ k, k < levs w h → ps[k * 3]? = some (.int .i64 (lw w k)) ∧ ps[k * 3 + 1]? = some (.int .i64 (lw h k)) ∧ ps[k * 3 + 2]? = some (.slice (some ⟨s k, 0, none⟩) (area w h k) (area w h k))
  cells : ∀ k, k < levs w h → CellsAt W (s k) (lw w k) (lw h k) (R k)
theorem PyrRaw.keep {W W' : World} {p : Nat} {F : Nat → Prop} {w h : Int} {R : Nat → Int → Int → Int → Int → Prop} {A cap : Nat} {ps : Array Value} {s : Nat → Nat} (H : PyrRaw W p F w h R A cap ps s)
    (hs : W.heap.size ≤ W'.heap.size) (he : ∀ k, F k → W'.heap[k]? = W.heap[k]?) : PyrRaw W' p F w h R A cap ps s :=
  ⟨H.w1, H.w2, H.h1, H.h2, H.own, H.owna, H.owns, fun k hk => Nat.lt_of_lt_of_le (H.lt k hk) hs, H.ne, H.nep, H.inj, H.cap_le, (he p H.own).trans H.head, (he A H.owna).trans H.row, H.lev, fun k hk => (H.cells k hk).keep (he _ (H.owns k hk))⟩
theorem PyrRaw.below {W W' : World} {p : Nat} {F : Nat → Prop} {w h : Int} {R : Nat → Int → Int → Int → Int → Prop} {A cap : Nat} {ps : Array Value} {s : Nat → Nat} (H : PyrRaw W p F w h R A cap ps s) (hb : Below W.heap.size W W') : PyrRaw W' p F w h R A cap ps s :=
  H.keep hb.size (fun k hk => hb.block k (H.lt k hk))
/-- A pyramid of a land. -/
def PyrAt (W : World) (p : Nat) (F : Nat → Prop) (w h : Int) (f : Int → Int → Int) : Prop := ∃ A cap ps s, PyrRaw W p F w h (fun k => Rng f w h k) A cap ps s
theorem PyrAt.below {W W' : World} {p : Nat} {F : Nat → Prop} {w h : Int} {f : Int → Int → Int} (H : PyrAt W p F w h f) (hb : Below W.heap.size W W') : PyrAt W' p F w h f := by
  obtain ⟨A, cap, ps, s, H⟩ := H
  exact ⟨A, cap, ps, s, H.below hb⟩
theorem PyrAt.mod {S : Nat → Prop} {W W' : World} {p : Nat} {F : Nat → Prop} {w h : Int} {f : Int → Int → Int} (H : PyrAt W p F w h f) (hm : Mod S W W') (hn : ∀ k, F k → ¬ S k) : PyrAt W' p F w h f := by
  obtain ⟨A, cap, ps, s, H⟩ := H
  exact ⟨A, cap, ps, s, H.keep hm.size (fun k hk => hm.block k (H.lt k hk) (hn k hk))⟩
theorem PyrAt.dims {W : World} {p : Nat} {F : Nat → Prop} {w h : Int} {f : Int → Int → Int} (H : PyrAt W p F w h f) : 1 ≤ w ∧ w ≤ 1024 ∧ 1 ≤ h ∧ h ≤ 1024 := by
  obtain ⟨A, cap, ps, s, H⟩ := H
  exact ⟨H.w1, H.w2, H.h1, H.h2⟩
theorem PyrAt.congr {W : World} {p : Nat} {F : Nat → Prop} {w h : Int} {f f' : Int → Int → Int} (H : PyrAt W p F w h f) (e : ∀ x y, 0 ≤ x → x < w → 0 ≤ y → y < h → f' x y = f x y) : PyrAt W p F w h f' := by
  obtain ⟨A, cap, ps, s, H⟩ := H
  refine ⟨A, cap, ps, s, H.w1, H.w2, H.h1, H.h2, H.own, H.owna, H.owns, H.lt, H.ne, H.nep, H.inj, H.cap_le, H.head, H.row, H.lev, fun k hk => (H.cells k hk).weaken (fun x y a c _ _ _ _ hr => RngOn.congr hr (fun u v hs => e u v hs.1 hs.2.1 hs.2.2.1 hs.2.2.2.1))⟩

set_option maxHeartbeats 2000000 in
theorem pyr_Levels_ok (p : Nat) (F : Nat → Prop) (w h : Int) (R : Nat → Int → Int → Int → Int → Prop) (A cap : Nat) (ps : Array Value) (s : Nat → Nat) (W : World) (H : PyrRaw W p F w h R A cap ps s) :
    Calls Try.prog 37 #[.pointer (some ⟨p, 0, none⟩)] W fun e W' => e = .returned (.int .i64 (levs w h)) ∧ W = W' := by
  have hd := H.head
  have k_0 := cells_w hd 0 rfl
  go_enter Try.func37, Try.ntmps37
  go_wp2_with fail
  go_ret
  exact ⟨rfl, rfl⟩

set_option maxHeartbeats 2000000 in
theorem pyr_Size_ok (p : Nat) (F : Nat → Prop) (w h : Int) (R : Nat → Int → Int → Int → Int → Prop) (A cap : Nat) (ps : Array Value) (s : Nat → Nat) (W : World) (H : PyrRaw W p F w h R A cap ps s) :
    Calls Try.prog 36 #[.pointer (some ⟨p, 0, none⟩)] W fun e W' => e = .returned (.tuple #[.int .i64 w, .int .i64 h]) ∧ Below W.heap.size W W' := by
  have hd := H.head
  have hr := H.row
  have hL := levs_bd H.w1 H.w2 H.h1 H.h2
  obtain ⟨e0, e1, _⟩ := H.lev 0 (by omega)
  rw [lw0] at e0 e1
  rw [Nat.zero_mul] at e0 e1
  have c0 := (blk_cell hr 0).trans e0
  have c1 := (blk_cell hr 1).trans e1
  have q0 := fun d os => cell_regrown c0 d os
  have q1 := fun d os => cell_regrown c1 d os
  have hp : 0 < levs w h := by omega
  have hpd : decide (0 < levs w h) = true := decide_eq_true hp
  have k_0 := cells_q hd 0 rfl
  clear e0 e1 c0 c1
  go_enter Try.func36, Try.ntmps36
  go_wp2_with fail
  refine wp_quiet (by kernel_rfl) (by kernel_rfl) ?_
  repeat (go_big_quiet_step ((first | fail)))
  refine wpQuiet_nil ?_
  intro W2 hb2
  go_wp2_with fail
  go_ret2
  exact ⟨rfl, hb2⟩

set_option maxHeartbeats 2000000 in
set_option maxRecDepth 100000 in
theorem pyr_At_arg (p : Nat) (F : Nat → Prop) (w h x y k : Int) (f : Int → Int → Int) (A cap : Nat) (ps : Array Value) (s : Nat → Nat) (W : World) (H : PyrRaw W p F w h (fun k => Rng f w h k) A cap ps s) (hk : ¬ (0 ≤ k ∧ k < (levs w h : Int))) :
    Calls Try.prog 16 #[.pointer (some ⟨p, 0, none⟩), .int .i64 k, .agg #[.int .i64 x, .int .i64 y]] W (AtOut f w h k x y W) := by
  have hd := below_blk (below_alloc (below_alloc1 W (.cells #[.int .i64 x, .int .i64 y] 24)) (.cells #[.int .i64 0, .int .i64 0] 39)) H.head
  have nR := blk_new2 W (.cells #[.int .i64 x, .int .i64 y] 24) (.cells #[.int .i64 0, .int .i64 0] 39)
  have hB := below_alloc (below_alloc1 W (.cells #[.int .i64 x, .int .i64 y] 24)) (.cells #[.int .i64 0, .int .i64 0] 39)
  have HK := Lib.hid hk
  obtain ⟨L, hL⟩ : ∃ L, levs w h = L := ⟨_, rfl⟩
  rw [hL] at hd hk
  clear hL
  have k_0 := cells_w hd 0 rfl
  have r_0 := cells_w nR 0 rfl
  have r_1 := cells_w nR 1 rfl
  have z_0 := blk_frozen nR 0
  have z_1 := blk_frozen nR 1
  go_enter Try.func16, Try.ntmps16
  by_cases hk2 : k < 0
  · have d1 := decide_eq_true hk2
    go_wp2_with fail
    refine bodyPost_ret (res_ct rfl rfl nR agg_Range rfl) rfl ?_
    refine ⟨0, 0, 11, rfl, ?_, hB⟩
    unfold AtIs
    rw [if_neg HK.out]
    exact ⟨rfl, rfl, rfl⟩
  · have d1 := decide_eq_false hk2
    have d2 : decide ((L : Int) ≤ k) = true := decide_eq_true (by omega)
    go_wp2_with fail
    refine bodyPost_ret (res_ct rfl rfl nR agg_Range rfl) rfl ?_
    refine ⟨0, 0, 11, rfl, ?_, hB⟩
    unfold AtIs
    rw [if_neg HK.out]
    exact ⟨rfl, rfl, rfl⟩

set_option maxHeartbeats 2000000 in
set_option maxRecDepth 100000 in
theorem pyr_At_place (p : Nat) (F : Nat → Prop) (w h x y : Int) (k : Nat) (f : Int → Int → Int) (A cap : Nat) (ps : Array Value) (s : Nat → Nat) (W : World) (H : PyrRaw W p F w h (fun k => Rng f w h k) A cap ps s) (hk : k < levs w h) (hp : ¬ (0 ≤ x ∧ x < lw w k ∧ 0 ≤ y ∧ y < lw h k)) :
    Calls Try.prog 16 #[.pointer (some ⟨p, 0, none⟩), .int .i64 k, .agg #[.int .i64 x, .int .i64 y]] W (AtOut f w h k x y W) := by
  have HP := Lib.hid hp
  clear hp
  have hL10 := levs_bd H.w1 H.w2 H.h1 H.h2
  have hd := below_blk (below_alloc (below_alloc1 W (.cells #[.int .i64 x, .int .i64 y] 24)) (.cells #[.int .i64 0, .int .i64 0] 39)) H.head
  have hr := below_blk (below_alloc (below_alloc1 W (.cells #[.int .i64 x, .int .i64 y] 24)) (.cells #[.int .i64 0, .int .i64 0] 39)) H.row
  obtain ⟨e0, e1, e2⟩ := H.lev k hk
  have c0 := (blk_cell hr (k * 3)).trans e0
  have c1 := (blk_cell hr (k * 3 + 1)).trans e1
  have c2 := (blk_cell hr (k * 3 + 2)).trans e2
  have n1 := below_blk (below_alloc1 _ (.cells #[.int .i64 0, .int .i64 0] 39)) (blk_new W (.cells #[.int .i64 x, .int .i64 y] 24))
  have nR := blk_new2 W (.cells #[.int .i64 x, .int .i64 y] 24) (.cells #[.int .i64 0, .int .i64 0] 39)
  have hB := below_alloc (below_alloc1 W (.cells #[.int .i64 x, .int .i64 y] 24)) (.cells #[.int .i64 0, .int .i64 0] 39)
  obtain ⟨L, hL⟩ : ∃ L, levs w h = L := ⟨_, rfl⟩
  have HL := Lib.hid hL
  rw [hL] at hd hk hL10
  have hki : (k : Int) < (L : Int) := by omega
  have d2 : decide (L ≤ k) = false := decide_eq_false (by omega)
  clear hL e0 e1 e2 hr
  go_enter Try.func16, Try.ntmps16
  by_cases hx : x < 0
  · have t1 := decide_eq_true hx
    have j_0 := cells_w hd 0 rfl
    have i_0 := cells_w n1 0 rfl
    have i_1 := cells_w n1 1 rfl
    have ia := fun o => cell_alloc (o := o) i_0
    have ib := fun o => cell_alloc (o := o) i_1
    go_wp2_with fail
    refine bodyPost_ret (res_ct rfl rfl (below_blk (below_alloc1 _ _) nR) agg_Range rfl) rfl ?_
    refine ⟨0, 0, 4, rfl, ?_, below_alloc hB _⟩
    unfold AtIs
    rw [if_pos ⟨by omega, by have := HL.out; omega⟩, if_neg (by rw [Int.toNat_natCast]; exact HP.out)]
    exact ⟨rfl, rfl, rfl⟩
  have t1 := decide_eq_false hx
  by_cases hx2 : lw w k ≤ x
  · have t3 := decide_eq_true hx2
    have j_0 := cells_w hd 0 rfl
    have i_0 := cells_w n1 0 rfl
    have i_1 := cells_w n1 1 rfl
    have ia := fun o => cell_alloc (o := o) i_0
    have ib := fun o => cell_alloc (o := o) i_1
    go_wp2_with fail
    refine bodyPost_ret (res_ct rfl rfl (below_blk (below_alloc1 _ _) nR) agg_Range rfl) rfl ?_
    refine ⟨0, 0, 4, rfl, ?_, below_alloc hB _⟩
    unfold AtIs
    rw [if_pos ⟨by omega, by have := HL.out; omega⟩, if_neg (by rw [Int.toNat_natCast]; exact HP.out)]
    exact ⟨rfl, rfl, rfl⟩
  have t3 := decide_eq_false hx2
  by_cases hy : y < 0
  · have t2 := decide_eq_true hy
    have j_0 := cells_w hd 0 rfl
    have i_0 := cells_w n1 0 rfl
    have i_1 := cells_w n1 1 rfl
    have ia := fun o => cell_alloc (o := o) i_0
    have ib := fun o => cell_alloc (o := o) i_1
    go_wp2_with fail
    refine bodyPost_ret (res_ct rfl rfl (below_blk (below_alloc1 _ _) nR) agg_Range rfl) rfl ?_
    refine ⟨0, 0, 4, rfl, ?_, below_alloc hB _⟩
    unfold AtIs
    rw [if_pos ⟨by omega, by have := HL.out; omega⟩, if_neg (by rw [Int.toNat_natCast]; exact HP.out)]
    exact ⟨rfl, rfl, rfl⟩
  have t2 := decide_eq_false hy
  have t4 : decide (lw h k ≤ y) = true := decide_eq_true (by have := HP.out; omega)
  have j_0 := cells_w hd 0 rfl
  have i_0 := cells_w n1 0 rfl
  have i_1 := cells_w n1 1 rfl
  have ia := fun o => cell_alloc (o := o) i_0
  have ib := fun o => cell_alloc (o := o) i_1
  go_wp2_with fail
  refine bodyPost_ret (res_ct rfl rfl (below_blk (below_alloc1 _ _) nR) agg_Range rfl) rfl ?_
  refine ⟨0, 0, 4, rfl, ?_, below_alloc hB _⟩
  unfold AtIs
  rw [if_pos ⟨by omega, by have := HL.out; omega⟩, if_neg (by rw [Int.toNat_natCast]; exact HP.out)]
  exact ⟨rfl, rfl, rfl⟩

set_option maxHeartbeats 2000000 in
set_option maxRecDepth 100000 in
theorem pyr_At_ok (p : Nat) (F : Nat → Prop) (w h x y : Int) (k : Nat) (f : Int → Int → Int) (A cap : Nat) (ps : Array Value) (s : Nat → Nat) (W : World) (H : PyrRaw W p F w h (fun k => Rng f w h k) A cap ps s) (hk : k < levs w h) (a1 : 0 ≤ x) (a2 : x < lw w k) (a3 : 0 ≤ y) (a4 : y < lw h k) :
    Calls Try.prog 16 #[.pointer (some ⟨p, 0, none⟩), .int .i64 k, .agg #[.int .i64 x, .int .i64 y]] W (AtOut f w h k x y W) := by
  have bw := lw_bd H.w1 k
  have bh := lw_bd H.h1 k
  have hw2 := H.w2
  have hh2 := H.h2
  have hix := idx_lt a1 a2 a3 a4
  have hm := mul_bd (a := y) (b := lw w k) (A := 1024) (B := 1024) a3 (by omega) (by omega) (by omega)
  have hM := mul_bd (a := lw w k) (b := lw h k) (A := 1024) (B := 1024) (by omega) (by omega) (by omega) (by omega)
  obtain ⟨cs, hcs, hcell⟩ := H.cells k hk
  obtain ⟨va, vc, hc1, hc2, hR⟩ := hcell x y a1 a2 a3 a4
  have hcs2 := below_blk (below_alloc (below_alloc1 W (.cells #[.int .i64 x, .int .i64 y] 24)) (.cells #[.int .i64 0, .int .i64 0] 39)) hcs
  have v0 := (blk_cell hcs2 _).trans hc1
  have v1 := (blk_cell hcs2 _).trans hc2
  have harea : area w h k = (lw w k * lw h k).toNat := rfl
  have hI1 : y * lw w k + x < (area w h k : Int) := by omega
  have u1 : wrap64 (y * lw w k) = y * lw w k := wrap64_id (by omega) (by omega)
  have u2 : wrap64 (y * lw w k + x) = y * lw w k + x := wrap64_id (by omega) (by omega)
  have hI0 := hix.1
  have t1 : decide (x < 0) = false := decide_eq_false (by omega)
  have t2 : decide (lw w k ≤ x) = false := decide_eq_false (by omega)
  have t3 : decide (y < 0) = false := decide_eq_false (by omega)
  have t4 : decide (lw h k ≤ y) = false := decide_eq_false (by omega)
  have HRR := Lib.hid hR
  have HAA := Lib.hid (And.intro a1 (And.intro a2 (And.intro a3 a4)))
  have l2 := blk_lt hcs2
  clear hcell hc1 hc2 hR harea hcs hcs2 hix hm hM
  have hL10 := levs_bd H.w1 H.w2 H.h1 H.h2
  have hd := below_blk (below_alloc (below_alloc1 W (.cells #[.int .i64 x, .int .i64 y] 24)) (.cells #[.int .i64 0, .int .i64 0] 39)) H.head
  have hr := below_blk (below_alloc (below_alloc1 W (.cells #[.int .i64 x, .int .i64 y] 24)) (.cells #[.int .i64 0, .int .i64 0] 39)) H.row
  obtain ⟨e0, e1, e2⟩ := H.lev k hk
  have c0 := (blk_cell hr (k * 3)).trans e0
  have c1 := (blk_cell hr (k * 3 + 1)).trans e1
  have c2 := (blk_cell hr (k * 3 + 2)).trans e2
  have n1 := below_blk (below_alloc1 _ (.cells #[.int .i64 0, .int .i64 0] 39)) (blk_new W (.cells #[.int .i64 x, .int .i64 y] 24))
  have nR := blk_new2 W (.cells #[.int .i64 x, .int .i64 y] 24) (.cells #[.int .i64 0, .int .i64 0] 39)
  have hB := below_alloc (below_alloc1 W (.cells #[.int .i64 x, .int .i64 y] 24)) (.cells #[.int .i64 0, .int .i64 0] 39)
  obtain ⟨L, hL⟩ : ∃ L, levs w h = L := ⟨_, rfl⟩
  have HL := Lib.hid hL
  rw [hL] at hd hk hL10
  have hki : (k : Int) < (L : Int) := by omega
  have d2 : decide (L ≤ k) = false := decide_eq_false (by omega)
  clear hL e0 e1 e2 hr
  go_enter Try.func16, Try.ntmps16
  have j_0 := cells_w hd 0 rfl
  have i_0 := cells_w n1 0 rfl
  have i_1 := cells_w n1 1 rfl
  have r_0 := cells_w nR 0 rfl
  have r_1 := cells_w nR 1 rfl
  have z_0 := blk_frozen nR 0
  have z_1 := blk_frozen nR 1
  have ia := fun o => cell_alloc (o := o) i_0
  have ib := fun o => cell_alloc (o := o) i_1
  have ic := fun o => cell_alloc (o := o) v0
  have id' := fun o => cell_alloc (o := o) v1
  go_wp2_with fail
  refine bodyPost_ret (res_ct rfl rfl (below_blk (below_alloc1 _ _) (blk_new2 W _ _)) agg_Range rfl) rfl ?_
  refine ⟨va, vc, 0, rfl, ?_, below_alloc (below_alloc (below_alloc1 _ _) _) _⟩
  unfold AtIs
  rw [if_pos ⟨by omega, by have := HL.out; omega⟩, if_pos (by rw [Int.toNat_natCast]; exact HAA.out), Int.toNat_natCast]
  exact ⟨rfl, HRR.out⟩

theorem pyr_At_any (p : Nat) (F : Nat → Prop) (w h x y k : Int) (f : Int → Int → Int) (W : World) (H : PyrAt W p F w h f) :
    Calls Try.prog 16 #[.pointer (some ⟨p, 0, none⟩), .int .i64 k, .agg #[.int .i64 x, .int .i64 y]] W (AtOut f w h k x y W) := by
  obtain ⟨A, cap, ps, s, H⟩ := H
  by_cases hk : 0 ≤ k ∧ k < (levs w h : Int)
  · obtain ⟨m, rfl⟩ : ∃ m : Nat, k = m := ⟨k.toNat, by omega⟩
    by_cases hp : 0 ≤ x ∧ x < lw w m ∧ 0 ≤ y ∧ y < lw h m
    · exact pyr_At_ok p F w h x y m f A cap ps s W H (by omega) hp.1 hp.2.1 hp.2.2.1 hp.2.2.2
    · exact pyr_At_place p F w h x y m f A cap ps s W H (by omega) hp
  · exact pyr_At_arg p F w h x y k f A cap ps s W H hk
end Go.Proofs.Ytgofkgmhpnkchaa
/- pyr.join; a level's cells turned one by one. -/
set_option linter.unusedVariables false
set_option linter.unusedSimpArgs false
namespace Go.Proofs.Ytgofkgmhpnkchaa
open Go.RowKit

set_option maxHeartbeats 2000000 in
theorem join_ok (a c b d : Int) (W : World) :
    Calls Try.prog 97 #[.agg #[.int .i64 a, .int .i64 c], .agg #[.int .i64 b, .int .i64 d]] W fun e W' => e = .returned (.agg #[.int .i64 (imin a b), .int .i64 (imax c d)]) ∧ Below W.heap.size W W' := by
  go_enter Try.func97, Try.ntmps97
  go_wp2_with fail
  have nR := blk_new2 (W.alloc (.cells #[.int .i64 a, .int .i64 c] 39)) (.cells #[.int .i64 b, .int .i64 d] 39) (.cells #[.int .i64 (imin a b), .int .i64 (imax c d)] 39)
  rw [alloc_size] at nR
  refine bodyPost_ret (res_c rfl rfl nR agg_Range rfl) rfl ?_
  exact ⟨rfl, below_alloc (below_alloc (below_alloc1 _ _) _) _⟩

theorem CellsAt.put {W : World} {b : Nat} {w h : Int} {R R' : Int → Int → Int → Int → Prop} (H : CellsAt W b w h R) {X Y : Int} (b0 : 0 ≤ X) (b1 : X < w) (b2 : 0 ≤ Y) (b3 : Y < h) {a c : Int} (hR : R' X Y a c)
    (hr : ∀ x y a' c', 0 ≤ x → x < w → 0 ≤ y → y < h → ¬ (x = X ∧ y = Y) → R x y a' c' → R' x y a' c') :
    CellsAt ((W.setCell ⟨b, (Y * w + X).toNat * 2, none⟩ (.int .i64 a)).setCell ⟨b, (Y * w + X).toNat * 2 + 1, none⟩ (.int .i64 c)) b w h R' := by
  obtain ⟨cs, h1, h2⟩ := H
  refine ⟨_, blk_set (blk_set h1 _ _) _ _, fun x y a1 a2 a3 a4 => ?_⟩
  obtain ⟨a', c', k1, k2, k3⟩ := h2 x y a1 a2 a3 a4
  obtain ⟨_, _, m1, m2, _⟩ := h2 X Y b0 b1 b2 b3
  by_cases e : x = X ∧ y = Y
  · obtain ⟨rfl, rfl⟩ := e
    have l1 := (Array.getElem?_eq_some_iff.1 m1).1
    have l2 := (Array.getElem?_eq_some_iff.1 m2).1
    refine ⟨a, c, ?_, ?_, hR⟩
    · rw [Array.getElem?_setIfInBounds_ne (by omega), Array.getElem?_setIfInBounds_self_of_lt l1]
    · rw [Array.getElem?_setIfInBounds_self_of_lt (by simpa using l2)]
  · have hne : (y * w + x).toNat ≠ (Y * w + X).toNat := fun q => e (idx_inj a1 a2 a3 b0 b1 b2 q)
    refine ⟨a', c', ?_, ?_, hr x y a' c' a1 a2 a3 a4 e k3⟩
    · rw [Array.getElem?_setIfInBounds_ne (by omega), Array.getElem?_setIfInBounds_ne (by omega)]
      exact k1
    · rw [Array.getElem?_setIfInBounds_ne (by omega), Array.getElem?_setIfInBounds_ne (by omega)]
      exact k2
/-- The first j rows, and i cells of the next one, are mended. -/
def doneM (x0 y0 x1 y1 : Int) (j i : Nat) (x y : Int) : Prop := x0 ≤ x ∧ x ≤ x1 ∧ y0 ≤ y ∧ y ≤ y1 ∧ (y < y0 + j ∨ (y = y0 + j ∧ x < x0 + i))
def MendR (x0 y0 x1 y1 : Int) (j i : Nat) (R' R : Int → Int → Int → Int → Prop) (x y a c : Int) : Prop := (doneM x0 y0 x1 y1 j i x y → R' x y a c) ∧ (¬ doneM x0 y0 x1 y1 j i x y → R x y a c)
/-- Inside a rectangle the one, elsewhere the other. -/
def MixR (x0 y0 x1 y1 : Int) (R' R : Int → Int → Int → Int → Prop) (x y a c : Int) : Prop := (inR x0 y0 x1 y1 x y → R' x y a c) ∧ (¬ inR x0 y0 x1 y1 x y → R x y a c)
theorem mend_zero {x0 y0 x1 y1 x y a c : Int} {R' R : Int → Int → Int → Int → Prop} (h : R x y a c) : MendR x0 y0 x1 y1 0 0 R' R x y a c :=
  ⟨fun hd => by unfold doneM at hd; omega, fun _ => h⟩
theorem mend_row {x0 y0 x1 y1 x y a c : Int} {rw j : Nat} {R' R : Int → Int → Int → Int → Prop} (hrw : (rw : Int) = x1 - x0 + 1) (h : MendR x0 y0 x1 y1 j rw R' R x y a c) : MendR x0 y0 x1 y1 (j + 1) 0 R' R x y a c := by
  have e : doneM x0 y0 x1 y1 (j + 1) 0 x y ↔ doneM x0 y0 x1 y1 j rw x y := by unfold doneM; omega
  unfold MendR at h ⊢
  rw [e]
  exact h
theorem mend_last {x0 y0 x1 y1 x y a c : Int} {rh : Nat} {R' R : Int → Int → Int → Int → Prop} (hrh : (rh : Int) = y1 - y0 + 1) (h : MendR x0 y0 x1 y1 rh 0 R' R x y a c) : MixR x0 y0 x1 y1 R' R x y a c := by
  have e : doneM x0 y0 x1 y1 rh 0 x y ↔ inR x0 y0 x1 y1 x y := by unfold doneM inR; omega
  unfold MendR at h
  rw [e] at h
  exact h
theorem mend_next {x0 y0 x1 y1 X Y x y a c : Int} {j i : Nat} {R' R : Int → Int → Int → Int → Prop} (hX : X = x0 + i) (hY : Y = y0 + j) (hn : ¬ (x = X ∧ y = Y)) (h : MendR x0 y0 x1 y1 j i R' R x y a c) : MendR x0 y0 x1 y1 j (i + 1) R' R x y a c := by
  have e : doneM x0 y0 x1 y1 j (i + 1) x y ↔ doneM x0 y0 x1 y1 j i x y := by unfold doneM; omega
  unfold MendR at h ⊢
  rw [e]
  exact h
theorem mend_this {x0 y0 x1 y1 X Y a c : Int} {j i : Nat} {R' R : Int → Int → Int → Int → Prop} (hX : X = x0 + i) (hY : Y = y0 + j) (h1 : X ≤ x1) (h2 : Y ≤ y1) (h : R' X Y a c) : MendR x0 y0 x1 y1 j (i + 1) R' R X Y a c :=
  ⟨fun _ => h, fun hn => absurd (by unfold doneM; omega) hn⟩
end Go.Proofs.Ytgofkgmhpnkchaa

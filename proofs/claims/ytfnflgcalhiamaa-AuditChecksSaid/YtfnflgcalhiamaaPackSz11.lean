/- Texts of this claim, joined: PyrAt, AuditCk, GridSet. -/
import Derived.Test.YtfnflgcalhiamaaPackSz6
import Derived.Test.YtfnflgcalhiamaaPackSz8
import Derived.Test.YtfnflgcalhiamaaPackSz10
import Derived.Handy
import Derived.Deep.MidRow
/- A pyramid in memory; pyr.Levels, Size, At. -/
set_option linter.unusedVariables false
set_option linter.unusedSimpArgs false
namespace Go.Proofs.Ytfnflgcalhiamaa
open Go.RowKit

/-- A level's cells in a block. -/
def CellsAt (W : World) (b : Nat) (w h : Int) (R : Int → Int → Int → Int → Prop) : Prop :=
  ∃ cs, W.heap[b]? = some (.cells cs 83 (0, 0)) ∧ ∀ x y, 0 ≤ x → x < w → 0 ≤ y → y < h → ∃ a c, cs[(y * w + x).toNat * 2]? = some (.int .i64 a) ∧ cs[(y * w + x).toNat * 2 + 1]? = some (.int .i64 c) ∧ R x y a c
theorem CellsAt.keep {W W' : World} {b : Nat} {w h : Int} {R : Int → Int → Int → Int → Prop} (H : CellsAt W b w h R) (he : W'.heap[b]? = W.heap[b]?) : CellsAt W' b w h R := by
  obtain ⟨cs, h1, h2⟩ := H
  exact ⟨cs, he.trans h1, h2⟩
theorem CellsAt.weaken {W : World} {b : Nat} {w h : Int} {R R' : Int → Int → Int → Int → Prop} (H : CellsAt W b w h R) (he : ∀ x y a c, 0 ≤ x → x < w → 0 ≤ y → y < h → R x y a c → R' x y a c) : CellsAt W b w h R' := by
  obtain ⟨cs, h1, h2⟩ := H
  refine ⟨cs, h1, fun x y a1 a2 a3 a4 => ?_⟩
  obtain ⟨a, c, k1, k2, k3⟩ := h2 x y a1 a2 a3 a4
  exact ⟨a, c, k1, k2, he x y a c a1 a2 a3 a4 k3⟩
/-- The number of a level's cells. -/
def area (w h : Int) (k : Nat) : Nat := (lw w k * lw h k).toNat
/-- A pyramid, all that lies in memory. -/
structure PyrRaw (W : World) (p : Nat) (F : Nat → Prop) (w h : Int) (R : Nat → Int → Int → Int → Int → Prop) (A cap : Nat) (ps : Array Value) (s : Nat → Nat) : Prop where
  w1 : 1 ≤ w
  w2 : w ≤ 1024
  h1 : 1 ≤ h
  h2 : h ≤ 1024
  own : F p
  owna : F A
  owns : ∀ k, k < levs w h → F (s k)
  lt : ∀ k, F k → k < W.heap.size
  ne : p ≠ A
  nep : ∀ k, k < levs w h → s k ≠ p ∧ s k ≠ A
  inj : ∀ k j, k < levs w h → j < levs w h → k ≠ j → s k ≠ s j
  cap_le : levs w h ≤ cap
  head : W.heap[p]? = some (.cells #[.slice (some ⟨A, 0, none⟩) (levs w h) cap] 60 (0, 0))
  row : W.heap[A]? = some (.cells ps 68 (0, 0))
  lev : ∀ k, k < levs w h → ps[k * 3]? = some (.int .i64 (lw w k)) ∧ ps[k * 3 + 1]? = some (.int .i64 (lw h k)) ∧ ps[k * 3 + 2]? = some (.slice (some ⟨s k, 0, none⟩) (area w h k) (area w h k))
  cells : ∀ k, k < levs w h → CellsAt W (s k) (lw w k) (lw h k) (R k)
theorem PyrRaw.keep {W W' : World} {p : Nat} {F : Nat → Prop} {w h : Int} {R : Nat → Int → Int → Int → Int → Prop} {A cap : Nat} {ps : Array Value} {s : Nat → Nat} (H : PyrRaw W p F w h R A cap ps s)
    (hs : W.heap.size ≤ W'.heap.size) (he : ∀ k, F k → W'.heap[k]? = W.heap[k]?) : PyrRaw W' p F w h R A cap ps s :=
  ⟨H.w1, H.w2, H.h1, H.h2, H.own, H.owna, H.owns, fun k hk => Nat.lt_of_lt_of_le (H.lt k hk) hs, H.ne, H.nep, H.inj, H.cap_le, (he p H.own).trans H.head, (he A H.owna).trans H.row, H.lev, fun k hk => (H.cells k hk).keep (he _ (H.owns k hk))⟩
theorem PyrRaw.below {W W' : World} {p : Nat} {F : Nat → Prop} {w h : Int} {R : Nat → Int → Int → Int → Int → Prop} {A cap : Nat} {ps : Array Value} {s : Nat → Nat} (H : PyrRaw W p F w h R A cap ps s) (hb : Below W.heap.size W W') : PyrRaw W' p F w h R A cap ps s :=
  H.keep hb.size (fun k hk => hb.block k (H.lt k hk))
/-- A pyramid of a land. -/
def PyrAt (W : World) (p : Nat) (F : Nat → Prop) (w h : Int) (f : Int → Int → Int) : Prop := ∃ A cap ps s, PyrRaw W p F w h (fun k => Rng f w h k) A cap ps s
theorem PyrAt.below {W W' : World} {p : Nat} {F : Nat → Prop} {w h : Int} {f : Int → Int → Int} (H : PyrAt W p F w h f) (hb : Below W.heap.size W W') : PyrAt W' p F w h f := by
  obtain ⟨A, cap, ps, s, H⟩ := H
  exact ⟨A, cap, ps, s, H.below hb⟩
theorem PyrAt.mod {S : Nat → Prop} {W W' : World} {p : Nat} {F : Nat → Prop} {w h : Int} {f : Int → Int → Int} (H : PyrAt W p F w h f) (hm : Mod S W W') (hn : ∀ k, F k → ¬ S k) : PyrAt W' p F w h f := by
  obtain ⟨A, cap, ps, s, H⟩ := H
  exact ⟨A, cap, ps, s, H.keep hm.size (fun k hk => hm.block k (H.lt k hk) (hn k hk))⟩
theorem PyrAt.dims {W : World} {p : Nat} {F : Nat → Prop} {w h : Int} {f : Int → Int → Int} (H : PyrAt W p F w h f) : 1 ≤ w ∧ w ≤ 1024 ∧ 1 ≤ h ∧ h ≤ 1024 := by
  obtain ⟨A, cap, ps, s, H⟩ := H
  exact ⟨H.w1, H.w2, H.h1, H.h2⟩
theorem PyrAt.congr {W : World} {p : Nat} {F : Nat → Prop} {w h : Int} {f f' : Int → Int → Int} (H : PyrAt W p F w h f) (e : ∀ x y, 0 ≤ x → x < w → 0 ≤ y → y < h → f' x y = f x y) : PyrAt W p F w h f' := by
  obtain ⟨A, cap, ps, s, H⟩ := H
  refine ⟨A, cap, ps, s, H.w1, H.w2, H.h1, H.h2, H.own, H.owna, H.owns, H.lt, H.ne, H.nep, H.inj, H.cap_le, H.head, H.row, H.lev, fun k hk => (H.cells k hk).weaken (fun x y a c _ _ _ _ hr => RngOn.congr hr (fun u v hs => e u v hs.1 hs.2.1 hs.2.2.1 hs.2.2.2.1))⟩

set_option maxHeartbeats 2000000 in
theorem pyr_Levels_ok (p : Nat) (F : Nat → Prop) (w h : Int) (R : Nat → Int → Int → Int → Int → Prop) (A cap : Nat) (ps : Array Value) (s : Nat → Nat) (W : World) (H : PyrRaw W p F w h R A cap ps s) :
    Calls Try.prog 37 #[.pointer (some ⟨p, 0, none⟩)] W fun e W' => e = .returned (.int .i64 (levs w h)) ∧ W = W' := by
  have hd := H.head
  have k_0 := cells_w hd 0 rfl
  go_enter Try.func37, Try.ntmps37
  go_wp2_with fail
  go_ret
  exact ⟨rfl, rfl⟩

set_option maxHeartbeats 2000000 in
theorem pyr_Size_ok (p : Nat) (F : Nat → Prop) (w h : Int) (R : Nat → Int → Int → Int → Int → Prop) (A cap : Nat) (ps : Array Value) (s : Nat → Nat) (W : World) (H : PyrRaw W p F w h R A cap ps s) :
    Calls Try.prog 36 #[.pointer (some ⟨p, 0, none⟩)] W fun e W' => e = .returned (.tuple #[.int .i64 w, .int .i64 h]) ∧ Below W.heap.size W W' := by
  have hd := H.head
  have hr := H.row
  have hL := levs_bd H.w1 H.w2 H.h1 H.h2
  obtain ⟨e0, e1, _⟩ := H.lev 0 (by omega)
  rw [lw0] at e0 e1
  rw [Nat.zero_mul] at e0 e1
  have c0 := (blk_cell hr 0).trans e0
  have c1 := (blk_cell hr 1).trans e1
  have q0 := fun d os => cell_regrown c0 d os
  have q1 := fun d os => cell_regrown c1 d os
  have hp : 0 < levs w h := by omega
  have hpd : decide (0 < levs w h) = true := decide_eq_true hp
  have k_0 := cells_q hd 0 rfl
  clear e0 e1 c0 c1
  go_enter Try.func36, Try.ntmps36
  go_wp2_with fail
  refine wp_quiet (by kernel_rfl) (by kernel_rfl) ?_
  repeat (go_big_quiet_step ((first | fail)))
  refine wpQuiet_nil ?_
  intro W2 hb2
  go_wp2_with fail
  go_ret2
  exact ⟨rfl, hb2⟩

set_option maxHeartbeats 2000000 in
set_option maxRecDepth 100000 in
theorem pyr_At_arg (p : Nat) (F : Nat → Prop) (w h x y k : Int) (f : Int → Int → Int) (A cap : Nat) (ps : Array Value) (s : Nat → Nat) (W : World) (H : PyrRaw W p F w h (fun k => Rng f w h k) A cap ps s) (hk : ¬ (0 ≤ k ∧ k < (levs w h : Int))) :
    Calls Try.prog 30 #[.pointer (some ⟨p, 0, none⟩), .int .i64 k, .agg #[.int .i64 x, .int .i64 y]] W (AtOut f w h k x y W) := by
  have hd := below_blk (below_alloc (below_alloc1 W (.cells #[.int .i64 x, .int .i64 y] 53)) (.cells #[.int .i64 0, .int .i64 0] 83)) H.head
  have nR := blk_new2 W (.cells #[.int .i64 x, .int .i64 y] 53) (.cells #[.int .i64 0, .int .i64 0] 83)
  have hB := below_alloc (below_alloc1 W (.cells #[.int .i64 x, .int .i64 y] 53)) (.cells #[.int .i64 0, .int .i64 0] 83)
  have HK := Lib.hid hk
  obtain ⟨L, hL⟩ : ∃ L, levs w h = L := ⟨_, rfl⟩
  rw [hL] at hd hk
  clear hL
  have k_0 := cells_w hd 0 rfl
  have r_0 := cells_w nR 0 rfl
  have r_1 := cells_w nR 1 rfl
  have z_0 := blk_frozen nR 0
  have z_1 := blk_frozen nR 1
  go_enter Try.func30, Try.ntmps30
  by_cases hk2 : k < 0
  · have d1 := decide_eq_true hk2
    go_wp2_with fail
    refine bodyPost_ret (res_ct rfl rfl nR agg_Range rfl) rfl ?_
    refine ⟨0, 0, 11, rfl, ?_, hB⟩
    unfold AtIs
    rw [if_neg HK.out]
    exact ⟨rfl, rfl, rfl⟩
  · have d1 := decide_eq_false hk2
    have d2 : decide ((L : Int) ≤ k) = true := decide_eq_true (by omega)
    go_wp2_with fail
    refine bodyPost_ret (res_ct rfl rfl nR agg_Range rfl) rfl ?_
    refine ⟨0, 0, 11, rfl, ?_, hB⟩
    unfold AtIs
    rw [if_neg HK.out]
    exact ⟨rfl, rfl, rfl⟩

set_option maxHeartbeats 2000000 in
set_option maxRecDepth 100000 in
theorem pyr_At_place (p : Nat) (F : Nat → Prop) (w h x y : Int) (k : Nat) (f : Int → Int → Int) (A cap : Nat) (ps : Array Value) (s : Nat → Nat) (W : World) (H : PyrRaw W p F w h (fun k => Rng f w h k) A cap ps s) (hk : k < levs w h) (hp : ¬ (0 ≤ x ∧ x < lw w k ∧ 0 ≤ y ∧ y < lw h k)) :
    Calls Try.prog 30 #[.pointer (some ⟨p, 0, none⟩), .int .i64 k, .agg #[.int .i64 x, .int .i64 y]] W (AtOut f w h k x y W) := by
  have HP := Lib.hid hp
  clear hp
  have hL10 := levs_bd H.w1 H.w2 H.h1 H.h2
  have hd := below_blk (below_alloc (below_alloc1 W (.cells #[.int .i64 x, .int .i64 y] 53)) (.cells #[.int .i64 0, .int .i64 0] 83)) H.head
  have hr := below_blk (below_alloc (below_alloc1 W (.cells #[.int .i64 x, .int .i64 y] 53)) (.cells #[.int .i64 0, .int .i64 0] 83)) H.row
  obtain ⟨e0, e1, e2⟩ := H.lev k hk
  have c0 := (blk_cell hr (k * 3)).trans e0
  have c1 := (blk_cell hr (k * 3 + 1)).trans e1
  have c2 := (blk_cell hr (k * 3 + 2)).trans e2
  have n1 := below_blk (below_alloc1 _ (.cells #[.int .i64 0, .int .i64 0] 83)) (blk_new W (.cells #[.int .i64 x, .int .i64 y] 53))
  have nR := blk_new2 W (.cells #[.int .i64 x, .int .i64 y] 53) (.cells #[.int .i64 0, .int .i64 0] 83)
  have hB := below_alloc (below_alloc1 W (.cells #[.int .i64 x, .int .i64 y] 53)) (.cells #[.int .i64 0, .int .i64 0] 83)
  obtain ⟨L, hL⟩ : ∃ L, levs w h = L := ⟨_, rfl⟩
  have HL := Lib.hid hL
  rw [hL] at hd hk hL10
  have hki : (k : Int) < (L : Int) := by omega
  have d2 : decide (L ≤ k) = false := decide_eq_false (by omega)
  clear hL e0 e1 e2 hr
  go_enter Try.func30, Try.ntmps30
  by_cases hx : x < 0
  · have t1 := decide_eq_true hx
    have j_0 := cells_w hd 0 rfl
    have i_0 := cells_w n1 0 rfl
    have i_1 := cells_w n1 1 rfl
    have ia := fun o => cell_alloc (o := o) i_0
    have ib := fun o => cell_alloc (o := o) i_1
    go_wp2_with fail
    refine bodyPost_ret (res_ct rfl rfl (below_blk (below_alloc1 _ _) nR) agg_Range rfl) rfl ?_
    refine ⟨0, 0, 4, rfl, ?_, below_alloc hB _⟩
    unfold AtIs
    rw [if_pos ⟨by omega, by have := HL.out; omega⟩, if_neg (by rw [Int.toNat_natCast]; exact HP.out)]
    exact ⟨rfl, rfl, rfl⟩
  have t1 := decide_eq_false hx
  by_cases hx2 : lw w k ≤ x
  · have t3 := decide_eq_true hx2
    have j_0 := cells_w hd 0 rfl
    have i_0 := cells_w n1 0 rfl
    have i_1 := cells_w n1 1 rfl
    have ia := fun o => cell_alloc (o := o) i_0
    have ib := fun o => cell_alloc (o := o) i_1
    go_wp2_with fail
    refine bodyPost_ret (res_ct rfl rfl (below_blk (below_alloc1 _ _) nR) agg_Range rfl) rfl ?_
    refine ⟨0, 0, 4, rfl, ?_, below_alloc hB _⟩
    unfold AtIs
    rw [if_pos ⟨by omega, by have := HL.out; omega⟩, if_neg (by rw [Int.toNat_natCast]; exact HP.out)]
    exact ⟨rfl, rfl, rfl⟩
  have t3 := decide_eq_false hx2
  by_cases hy : y < 0
  · have t2 := decide_eq_true hy
    have j_0 := cells_w hd 0 rfl
    have i_0 := cells_w n1 0 rfl
    have i_1 := cells_w n1 1 rfl
    have ia := fun o => cell_alloc (o := o) i_0
    have ib := fun o => cell_alloc (o := o) i_1
    go_wp2_with fail
    refine bodyPost_ret (res_ct rfl rfl (below_blk (below_alloc1 _ _) nR) agg_Range rfl) rfl ?_
    refine ⟨0, 0, 4, rfl, ?_, below_alloc hB _⟩
    unfold AtIs
    rw [if_pos ⟨by omega, by have := HL.out; omega⟩, if_neg (by rw [Int.toNat_natCast]; exact HP.out)]
    exact ⟨rfl, rfl, rfl⟩
  have t2 := decide_eq_false hy
  have t4 : decide (lw h k ≤ y) = true := decide_eq_true (by have := HP.out; omega)
  have j_0 := cells_w hd 0 rfl
  have i_0 := cells_w n1 0 rfl
  have i_1 := cells_w n1 1 rfl
  have ia := fun o => cell_alloc (o := o) i_0
  have ib := fun o => cell_alloc (o := o) i_1
  go_wp2_with fail
  refine bodyPost_ret (res_ct rfl rfl (below_blk (below_alloc1 _ _) nR) agg_Range rfl) rfl ?_
  refine ⟨0, 0, 4, rfl, ?_, below_alloc hB _⟩
  unfold AtIs
  rw [if_pos ⟨by omega, by have := HL.out; omega⟩, if_neg (by rw [Int.toNat_natCast]; exact HP.out)]
  exact ⟨rfl, rfl, rfl⟩

set_option maxHeartbeats 2000000 in
set_option maxRecDepth 100000 in
theorem pyr_At_ok (p : Nat) (F : Nat → Prop) (w h x y : Int) (k : Nat) (f : Int → Int → Int) (A cap : Nat) (ps : Array Value) (s : Nat → Nat) (W : World) (H : PyrRaw W p F w h (fun k => Rng f w h k) A cap ps s) (hk : k < levs w h) (a1 : 0 ≤ x) (a2 : x < lw w k) (a3 : 0 ≤ y) (a4 : y < lw h k) :
    Calls Try.prog 30 #[.pointer (some ⟨p, 0, none⟩), .int .i64 k, .agg #[.int .i64 x, .int .i64 y]] W (AtOut f w h k x y W) := by
  have bw := lw_bd H.w1 k
  have bh := lw_bd H.h1 k
  have hw2 := H.w2
  have hh2 := H.h2
  have hix := idx_lt a1 a2 a3 a4
  have hm := mul_bd (a := y) (b := lw w k) (A := 1024) (B := 1024) a3 (by omega) (by omega) (by omega)
  have hM := mul_bd (a := lw w k) (b := lw h k) (A := 1024) (B := 1024) (by omega) (by omega) (by omega) (by omega)
  obtain ⟨cs, hcs, hcell⟩ := H.cells k hk
  obtain ⟨va, vc, hc1, hc2, hR⟩ := hcell x y a1 a2 a3 a4
  have hcs2 := below_blk (below_alloc (below_alloc1 W (.cells #[.int .i64 x, .int .i64 y] 53)) (.cells #[.int .i64 0, .int .i64 0] 83)) hcs
  have v0 := (blk_cell hcs2 _).trans hc1
  have v1 := (blk_cell hcs2 _).trans hc2
  have harea : area w h k = (lw w k * lw h k).toNat := rfl
  have hI1 : y * lw w k + x < (area w h k : Int) := by omega
  have u1 : wrap64 (y * lw w k) = y * lw w k := wrap64_id (by omega) (by omega)
  have u2 : wrap64 (y * lw w k + x) = y * lw w k + x := wrap64_id (by omega) (by omega)
  have hI0 := hix.1
  have t1 : decide (x < 0) = false := decide_eq_false (by omega)
  have t2 : decide (lw w k ≤ x) = false := decide_eq_false (by omega)
  have t3 : decide (y < 0) = false := decide_eq_false (by omega)
  have t4 : decide (lw h k ≤ y) = false := decide_eq_false (by omega)
  have HRR := Lib.hid hR
  have HAA := Lib.hid (And.intro a1 (And.intro a2 (And.intro a3 a4)))
  have l2 := blk_lt hcs2
  clear hcell hc1 hc2 hR harea hcs hcs2 hix hm hM
  have hL10 := levs_bd H.w1 H.w2 H.h1 H.h2
  have hd := below_blk (below_alloc (below_alloc1 W (.cells #[.int .i64 x, .int .i64 y] 53)) (.cells #[.int .i64 0, .int .i64 0] 83)) H.head
  have hr := below_blk (below_alloc (below_alloc1 W (.cells #[.int .i64 x, .int .i64 y] 53)) (.cells #[.int .i64 0, .int .i64 0] 83)) H.row
  obtain ⟨e0, e1, e2⟩ := H.lev k hk
  have c0 := (blk_cell hr (k * 3)).trans e0
  have c1 := (blk_cell hr (k * 3 + 1)).trans e1
  have c2 := (blk_cell hr (k * 3 + 2)).trans e2
  have n1 := below_blk (below_alloc1 _ (.cells #[.int .i64 0, .int .i64 0] 83)) (blk_new W (.cells #[.int .i64 x, .int .i64 y] 53))
  have nR := blk_new2 W (.cells #[.int .i64 x, .int .i64 y] 53) (.cells #[.int .i64 0, .int .i64 0] 83)
  have hB := below_alloc (below_alloc1 W (.cells #[.int .i64 x, .int .i64 y] 53)) (.cells #[.int .i64 0, .int .i64 0] 83)
  obtain ⟨L, hL⟩ : ∃ L, levs w h = L := ⟨_, rfl⟩
  have HL := Lib.hid hL
  rw [hL] at hd hk hL10
  have hki : (k : Int) < (L : Int) := by omega
  have d2 : decide (L ≤ k) = false := decide_eq_false (by omega)
  clear hL e0 e1 e2 hr
  go_enter Try.func30, Try.ntmps30
  have j_0 := cells_w hd 0 rfl
  have i_0 := cells_w n1 0 rfl
  have i_1 := cells_w n1 1 rfl
  have r_0 := cells_w nR 0 rfl
  have r_1 := cells_w nR 1 rfl
  have z_0 := blk_frozen nR 0
  have z_1 := blk_frozen nR 1
  have ia := fun o => cell_alloc (o := o) i_0
  have ib := fun o => cell_alloc (o := o) i_1
  have ic := fun o => cell_alloc (o := o) v0
  have id' := fun o => cell_alloc (o := o) v1
  go_wp2_with fail
  refine bodyPost_ret (res_ct rfl rfl (below_blk (below_alloc1 _ _) (blk_new2 W _ _)) agg_Range rfl) rfl ?_
  refine ⟨va, vc, 0, rfl, ?_, below_alloc (below_alloc (below_alloc1 _ _) _) _⟩
  unfold AtIs
  rw [if_pos ⟨by omega, by have := HL.out; omega⟩, if_pos (by rw [Int.toNat_natCast]; exact HAA.out), Int.toNat_natCast]
  exact ⟨rfl, HRR.out⟩

theorem pyr_At_any (p : Nat) (F : Nat → Prop) (w h x y k : Int) (f : Int → Int → Int) (W : World) (H : PyrAt W p F w h f) :
    Calls Try.prog 30 #[.pointer (some ⟨p, 0, none⟩), .int .i64 k, .agg #[.int .i64 x, .int .i64 y]] W (AtOut f w h k x y W) := by
  obtain ⟨A, cap, ps, s, H⟩ := H
  by_cases hk : 0 ≤ k ∧ k < (levs w h : Int)
  · obtain ⟨m, rfl⟩ : ∃ m : Nat, k = m := ⟨k.toNat, by omega⟩
    by_cases hp : 0 ≤ x ∧ x < lw w m ∧ 0 ≤ y ∧ y < lw h m
    · exact pyr_At_ok p F w h x y m f A cap ps s W H (by omega) hp.1 hp.2.1 hp.2.2.1 hp.2.2.2
    · exact pyr_At_place p F w h x y m f A cap ps s W H (by omega) hp
  · exact pyr_At_arg p F w h x y k f A cap ps s W H hk
end Go.Proofs.Ytfnflgcalhiamaa
/- audit.check. -/
set_option linter.unusedVariables false
set_option linter.unusedSimpArgs false
namespace Go.Proofs.Ytfnflgcalhiamaa
open Go.RowKit

/-- A pointer, or none. -/
def ptrO (o : Option Nat) : Value := match o with
  | some b => .pointer (some ⟨b, 0, none⟩)
  | none => .pointer none
set_option maxHeartbeats 2000000 in
set_option maxRecDepth 100000 in
theorem audit_check_nil (g p b : Option Nat) (W : World) (hn : g = none ∨ p = none ∨ b = none) :
    Calls Try.prog 28 #[ptrO g, ptrO p, ptrO b] W fun e W' => e = .returned (.int .i64 1) ∧ Below W.heap.size W W' := by
  rcases g with _ | g <;> rcases p with _ | p <;> rcases b with _ | b <;> simp at hn
  all_goals
    unfold ptrO
    dsimp only
    go_enter Try.func28, Try.ntmps28
    go_wp2_with fail
    go_ret
    exact ⟨rfl, Below.refl _ _⟩
set_option maxHeartbeats 4000000 in
set_option maxRecDepth 100000 in
theorem audit_check_any (g : Nat) (F : Nat → Prop) (w h : Int) (f : Int → Int → Int) (p : Nat) (Fp : Nat → Prop) (w2 h2 : Int) (f2 : Int → Int → Int) (b A : Nat) (w3 h3 : Nat) (S : Nat → Nat → Int) (W : World) (HG : GridAt W g F w h f) (HP : PyrAt W p Fp w2 h2 f2) (HF : FenAt W b A w3 h3 S) (code : Int)
    (hc : (w2 = w ∧ h2 = h ∧ (w3 : Int) = w ∧ (h3 : Int) = h → code = 0) ∧ (¬ (w2 = w ∧ h2 = h ∧ (w3 : Int) = w ∧ (h3 : Int) = h) → code = 3)) :
    Calls Try.prog 28 #[.pointer (some ⟨g, 0, none⟩), .pointer (some ⟨p, 0, none⟩), .pointer (some ⟨b, 0, none⟩)] W fun e W' => e = .returned (.int .i64 code) ∧ Below W.heap.size W W' := by
  have HC := Lib.hid hc
  clear hc
  go_enter Try.func28, Try.ntmps28
  go_wp2_with fail
  refine (grid_Size_ok g F w h f _ HG).mono ?_
  rintro e W2 ⟨rfl, hb⟩
  have hB := hb
  replace HP := HP.below hb
  replace HF := HF.below hb
  clear hb HG
  have hi0 : ∀ w : World, (Instr.index 116 (.agg #[.iface 31 (.pointer (some ⟨p, 0, none⟩)), .iface 35 (.pointer (some ⟨b, 0, none⟩))]) (.int .i64 0)).run Try.prog w = .ok (.iface 31 (.pointer (some ⟨p, 0, none⟩))) w := fun _ => by kernel_rfl
  have hi1 : ∀ w : World, (Instr.index 116 (.agg #[.iface 31 (.pointer (some ⟨p, 0, none⟩)), .iface 35 (.pointer (some ⟨b, 0, none⟩))]) (.int .i64 1)).run Try.prog w = .ok (.iface 35 (.pointer (some ⟨b, 0, none⟩))) w := fun _ => by kernel_rfl
  go_wp2_with fail
  refine wp_loop_rounds 3 ?_
  rw [rounds_succ]
  go_wp2_with fail
  obtain ⟨A2, cap2, ps2, s2, HPR⟩ := HP
  refine (pyr_Size_ok p Fp w2 h2 _ A2 cap2 ps2 s2 W2 HPR).mono ?_
  rintro e W3 ⟨rfl, hb⟩
  replace hB := below_next hB hb
  replace HF := HF.below hb
  clear hb HPR
  by_cases hw : w2 = w
  rotate_left
  · have t1 : (w2 != w) = true := by simp [hw]
    have hco : code = 3 := HC.out.2 (fun z => hw z.1)
    go_wp2_with fail
    go_ret
    exact ⟨by rw [hco]; rfl, hB⟩
  by_cases hh : h2 = h
  rotate_left
  · have t1 : (w2 != w) = false := by simp [hw]
    have t2 : (h2 != h) = true := by simp [hh]
    have hco : code = 3 := HC.out.2 (fun z => hh z.2.1)
    go_wp2_with fail
    go_ret
    exact ⟨by rw [hco]; rfl, hB⟩
  have t1 : (w2 != w) = false := by simp [hw]
  have t2 : (h2 != h) = false := by simp [hh]
  have HWH := Lib.hid (And.intro hw hh)
  clear hw hh
  go_wp2_with fail
  rw [rounds_succ]
  go_wp2_with fail
  refine (fen_Size_ok b A w3 h3 S W3 HF).mono ?_
  rintro e W4 ⟨rfl, hb⟩
  replace hB := below_next hB hb
  clear hb HF t1 t2
  by_cases hw : (w3 : Int) = w
  rotate_left
  · have t1 : ((w3 : Int) != w) = true := by simp [hw]
    have hco : code = 3 := HC.out.2 (fun z => hw z.2.2.1)
    go_wp2_with fail
    go_ret
    exact ⟨by rw [hco]; rfl, hB⟩
  by_cases hh : (h3 : Int) = h
  rotate_left
  · have t1 : ((w3 : Int) != w) = false := by simp [hw]
    have t2 : ((h3 : Int) != h) = true := by simp [hh]
    have hco : code = 3 := HC.out.2 (fun z => hh z.2.2.2)
    go_wp2_with fail
    go_ret
    exact ⟨by rw [hco]; rfl, hB⟩
  have t1 : ((w3 : Int) != w) = false := by simp [hw]
  have t2 : ((h3 : Int) != h) = false := by simp [hh]
  have hco : code = 0 := HC.out.1 ⟨HWH.out.1, HWH.out.2, hw, hh⟩
  clear hw hh
  go_wp2_with fail
  rw [rounds_succ]
  go_wp2_with fail
  go_ret
  exact ⟨by rw [hco]; rfl, hB⟩
end Go.Proofs.Ytfnflgcalhiamaa
/- A grid in which a piece of one tile is filled: plain, without the program's text. -/
set_option linter.unusedVariables false
set_option linter.unusedSimpArgs false
namespace Go.Proofs.Ytfnflgcalhiamaa
open Go.RowKit

theorem LandAt.congr {W : World} {F : Nat → Prop} {w h : Int} {f f' : Int → Int → Int} {c : Value} (H : LandAt W F w h f c) (e : ∀ x y, 0 ≤ x → x < w → 0 ≤ y → y < h → f' x y = f x y) : LandAt W F w h f' c := by
  rcases H with ⟨v, h1, h2, h3, h4⟩ | ⟨k, n, cap, cs, h1, h2, h2', h3, h4, h5, h6⟩
  · exact .inl ⟨v, h1, h2, h3, fun x y a b c d => (e x y a b c d).trans (h4 x y a b c d)⟩
  · exact .inr ⟨k, n, cap, cs, h1, h2, h2', h3, h4, h5, fun x y a b c d => by rw [e x y a b c d]; exact h6 x y a b c d⟩
theorem SlabAt.congr {W : World} {b : Nat} {F : Nat → Prop} {w h : Int} {f f' : Int → Int → Int} (H : SlabAt W b F w h f) (e : ∀ x y, 0 ≤ x → x < w → 0 ≤ y → y < h → f' x y = f x y) : SlabAt W b F w h f' := by
  obtain ⟨c, hc, hl⟩ := H.blk
  exact ⟨H.w1, H.w2, H.h1, H.h2, H.own, H.lt, fun x y a b c d => by rw [e x y a b c d]; exact H.bd x y a b c d, c, hc, hl.congr e⟩
theorem divmod_ne {m i j : Nat} (hm : 0 < m) (hne : j ≠ i) (h1 : j % m = i % m) (h2 : j / m = i / m) : False :=
  hne (by rw [← Nat.div_add_mod j m, ← Nat.div_add_mod i m, h1, h2])
theorem GridRaw.fill {W W' : World} {g : Nat} {F F' : Nat → Prop} {w h : Int} {f : Int → Int → Int} {a n cap : Nat} {ps : Array Value} {s : Nat → Nat} {Fs : Nat → Nat → Prop} (H : GridRaw W g F w h f a n cap ps s Fs)
    {i : Nat} {X0 Y0 X1 Y1 v : Int} (hi : i < n) (x0 : X0 / 16 = (i % acr w : Nat)) (x1 : X1 / 16 = (i % acr w : Nat)) (y0 : Y0 / 16 = (i / acr w : Nat)) (y1 : Y1 / 16 = (i / acr w : Nat))
    (hm : Mod (Fs i) W W') (hsub : ∀ k, F' k → Fs i k ∨ W.heap.size ≤ k)
    (HS : SlabAt W' (s i) F' (side w (i % acr w)) (side h (i / acr w)) (fillF (tileF f w i) (X0 % 16) (Y0 % 16) (X1 % 16) (Y1 % 16) v)) :
    GridRaw W' g (fun k => F k ∨ F' k) w h (fillF f X0 Y0 X1 Y1 v) a n cap ps s (fun j => if j = i then F' else Fs j) := by
  have hs := hm.size
  have hbw := acr_bd H.w1 H.w2
  refine ⟨H.w1, H.w2, H.h1, H.h2, .inl H.own, .inl H.owna, H.ne, ?_, H.n_eq, H.cap_le, ?_, ?_, H.ptr, ?_, ?_, ?_⟩
  · rintro k (hk | hk)
    · exact Nat.lt_of_lt_of_le (H.lt k hk) hs
    · exact HS.lt k hk
  · exact hm.blk H.grid (fun hF => (H.sub i g hi hF).2.1 rfl)
  · exact hm.blk H.row (fun hF => (H.sub i a hi hF).2.2 rfl)
  · intro j hj
    by_cases e : j = i
    · subst e
      simp only [if_pos]
      refine HS.congr ?_
      intro x y a1 a2 a3 a4
      have b1 := (side_bd H.w1 (Nat.mod_lt j (by omega : 0 < acr w))).2
      have hjh : j / acr w < acr h := Nat.div_lt_of_lt_mul (by rw [← H.n_eq]; exact hj)
      have b2 := (side_bd H.h1 hjh).2
      have hiff : inR (X0 % 16) (Y0 % 16) (X1 % 16) (Y1 % 16) x y ↔ inR X0 Y0 X1 Y1 (16 * (j % acr w : Nat) + x) (16 * (j / acr w : Nat) + y) := by
        unfold inR
        omega
      unfold tileF fillF
      by_cases hc : inR (X0 % 16) (Y0 % 16) (X1 % 16) (Y1 % 16) x y
      · rw [if_pos hc, if_pos (hiff.1 hc)]
      · rw [if_neg hc, if_neg (fun z => hc (hiff.2 z))]
    · simp only [if_neg e]
      refine ((H.slab j hj).mod hm (fun k h1 h2 => H.apart j i k hj hi e h1 h2)).congr ?_
      intro x y a1 a2 a3 a4
      have b1 := (side_bd H.w1 (Nat.mod_lt j (by omega : 0 < acr w))).2
      have hjh : j / acr w < acr h := Nat.div_lt_of_lt_mul (by rw [← H.n_eq]; exact hj)
      have b2 := (side_bd H.h1 hjh).2
      unfold tileF fillF
      rw [if_neg]
      unfold inR
      intro hc
      refine divmod_ne (m := acr w) (by omega) e ?_ ?_ <;> omega
  · intro j k hj hk
    by_cases e : j = i
    · subst e
      simp only [if_pos] at hk
      refine ⟨.inr hk, ?_, ?_⟩
      · rcases hsub k hk with h1 | h1
        · exact (H.sub j k hj h1).2.1
        · have := H.lt g H.own
          omega
      · rcases hsub k hk with h1 | h1
        · exact (H.sub j k hj h1).2.2
        · have := H.lt a H.owna
          omega
    · simp only [if_neg e] at hk
      exact ⟨.inl (H.sub j k hj hk).1, (H.sub j k hj hk).2⟩
  · intro j j2 k hj hj2 hne hk hk2
    have old : ∀ j, j < n → Fs j k → k < W.heap.size := fun j hj hk => H.lt k (H.sub j k hj hk).1
    by_cases e : j = i
    · subst e
      have e2 : j2 ≠ j := fun x => hne x.symm
      simp only [if_pos] at hk
      simp only [if_neg e2] at hk2
      rcases hsub k hk with h1 | h1
      · exact H.apart j j2 k hj hj2 hne h1 hk2
      · have := old j2 hj2 hk2
        omega
    · simp only [if_neg e] at hk
      by_cases e2 : j2 = i
      · subst e2
        simp only [if_pos] at hk2
        rcases hsub k hk2 with h1 | h1
        · exact H.apart j j2 k hj hj2 hne hk h1
        · have := old j hj hk
          omega
      · simp only [if_neg e2] at hk2
        exact H.apart j j2 k hj hj2 hne hk hk2

/-- The first j pieces are filled. -/
def stepF (f : Int → Int → Int) (r : R4) (v : Int) : Nat → Int → Int → Int
  | 0 => f
  | j + 1 => fillF (stepF f r v j) (piece r j).x0 (piece r j).y0 (piece r j).x1 (piece r j).y1 v
theorem step_in {f : Int → Int → Int} {r : R4} {v x y : Int} : ∀ {m q : Nat}, q < m → inR (piece r q).x0 (piece r q).y0 (piece r q).x1 (piece r q).y1 x y → stepF f r v m x y = v
  | m + 1, q, hq, h => by
    unfold stepF fillF
    by_cases e : q = m
    · subst e; rw [if_pos h]
    · rw [step_in (by omega : q < m) h, ite_self]
theorem step_out {f : Int → Int → Int} {r : R4} {v x y : Int} : ∀ {m : Nat}, (∀ q, q < m → ¬ inR (piece r q).x0 (piece r q).y0 (piece r q).x1 (piece r q).y1 x y) → stepF f r v m x y = f x y
  | 0, _ => rfl
  | m + 1, h => by
    unfold stepF fillF
    rw [if_neg (h m (by omega))]
    exact step_out (fun q hq => h q (by omega))
theorem step_all {f : Int → Int → Int} {r : R4} {v : Int} : stepF f r v (nx r.x0 r.x1 * nx r.y0 r.y1) = fillF f r.x0 r.y0 r.x1 r.y1 v := by
  funext x y
  unfold fillF
  by_cases h : inR r.x0 r.y0 r.x1 r.y1 x y
  · rw [if_pos h]
    unfold inR at h
    have h1 : (x / 16 - r.x0 / 16).toNat < nx r.x0 r.x1 := by unfold nx; omega
    have h2 : (y / 16 - r.y0 / 16).toNat < nx r.y0 r.y1 := by unfold nx; omega
    refine step_in (q := nx r.x0 r.x1 * (y / 16 - r.y0 / 16).toNat + (x / 16 - r.x0 / 16).toNat) ?_ ?_
    · have := Nat.mul_le_mul_left (nx r.x0 r.x1) (show (y / 16 - r.y0 / 16).toNat + 1 ≤ nx r.y0 r.y1 by omega)
      rw [Nat.mul_add] at this
      omega
    · rw [piece_at r _ _ h1]
      unfold inR tileOf imax imin
      simp only
      refine ⟨?_, ?_, ?_, ?_⟩ <;> split <;> omega
  · rw [if_neg h]
    refine step_out (fun q hq hc => h ?_)
    unfold inR piece tileOf imax imin at hc
    simp only at hc
    obtain ⟨c1, c2, c3, c4⟩ := hc
    unfold inR
    refine ⟨?_, ?_, ?_, ?_⟩ <;> split at c1 <;> split at c2 <;> split at c3 <;> split at c4 <;> omega

/-- A piece of a rectangle within a grid: of which tile. -/
theorem piece_tile {w h : Int} {r : R4} {q : Nat} (hw : 1 ≤ w) (hh : 1 ≤ h) (h0 : 0 ≤ r.x0) (h1 : r.x0 ≤ r.x1) (h2 : r.x1 < w) (h3 : 0 ≤ r.y0) (h4 : r.y0 ≤ r.y1) (h5 : r.y1 < h) (hq : q < nx r.x0 r.x1 * nx r.y0 r.y1) :
    ∃ i : Nat, i < acr w * acr h ∧ (i : Int) = (piece r q).y0 / 16 * ((w + 15) / 16) + (piece r q).x0 / 16 ∧
      (piece r q).x0 / 16 = (i % acr w : Nat) ∧ (piece r q).x1 / 16 = (i % acr w : Nat) ∧ (piece r q).y0 / 16 = (i / acr w : Nat) ∧ (piece r q).y1 / 16 = (i / acr w : Nat) ∧
      0 ≤ (piece r q).x0 ∧ (piece r q).x0 ≤ (piece r q).x1 ∧ (piece r q).x1 < w ∧ 0 ≤ (piece r q).y0 ∧ (piece r q).y0 ≤ (piece r q).y1 ∧ (piece r q).y1 < h ∧
      (piece r q).x1 % 16 < side w (i % acr w) ∧ (piece r q).y1 % 16 < side h (i / acr w) ∧ (piece r q).x0 % 16 ≤ (piece r q).x1 % 16 ∧ (piece r q).y0 % 16 ≤ (piece r q).y1 % 16 := by
  have e1 := acr_eq hw
  have e2 := acr_eq hh
  have p1 : 0 < nx r.x0 r.x1 := by unfold nx; omega
  have q1 : q % nx r.x0 r.x1 < nx r.x0 r.x1 := Nat.mod_lt _ p1
  have q2 : q / nx r.x0 r.x1 < nx r.y0 r.y1 := Nat.div_lt_of_lt_mul hq
  obtain ⟨u1, hu1⟩ : ∃ u, q % nx r.x0 r.x1 = u := ⟨_, rfl⟩
  obtain ⟨u2, hu2⟩ : ∃ u, q / nx r.x0 r.x1 = u := ⟨_, rfl⟩
  rw [hu1] at q1
  rw [hu2] at q2
  obtain ⟨tx, htx⟩ : ∃ tx : Nat, (tx : Int) = r.x0 / 16 + (u1 : Int) := ⟨(r.x0 / 16 + (u1 : Int)).toNat, by omega⟩
  obtain ⟨ty, hty⟩ : ∃ ty : Nat, (ty : Int) = r.y0 / 16 + (u2 : Int) := ⟨(r.y0 / 16 + (u2 : Int)).toNat, by omega⟩
  have ep : piece r q = tileOf r tx ty := by rw [htx, hty, ← hu1, ← hu2]; rfl
  clear hu1 hu2
  rw [ep]
  have n1 : (tx : Int) ≤ r.x1 / 16 := by unfold nx at q1; omega
  have n2 : (ty : Int) ≤ r.y1 / 16 := by unfold nx at q2; omega
  have n3 : r.x0 / 16 ≤ (tx : Int) := by omega
  have n4 : r.y0 / 16 ≤ (ty : Int) := by omega
  have l1 : tx < acr w := by omega
  have l2 : ty < acr h := by omega
  have hm : (ty * acr w + tx) % acr w = tx := by rw [Nat.mul_comm, Nat.mul_add_mod, Nat.mod_eq_of_lt l1]
  have hd : (ty * acr w + tx) / acr w = ty := by rw [Nat.mul_comm, Nat.mul_add_div (by omega), Nat.div_eq_of_lt l1, Nat.add_zero]
  obtain ⟨X0, hX0⟩ : ∃ X0, X0 = imax (tx * 16) r.x0 := ⟨_, rfl⟩
  obtain ⟨X1, hX1⟩ : ∃ X1, X1 = imin (tx * 16 + 16 - 1) r.x1 := ⟨_, rfl⟩
  obtain ⟨Y0, hY0⟩ : ∃ Y0, Y0 = imax (ty * 16) r.y0 := ⟨_, rfl⟩
  obtain ⟨Y1, hY1⟩ : ∃ Y1, Y1 = imin (ty * 16 + 16 - 1) r.y1 := ⟨_, rfl⟩
  have et : tileOf r tx ty = ⟨X0, Y0, X1, Y1⟩ := by rw [hX0, hX1, hY0, hY1]; rfl
  rw [et]
  dsimp only
  have fX0 : X0 / 16 = tx ∧ r.x0 ≤ X0 ∧ X0 ≤ r.x1 := by rw [hX0]; unfold imax; split <;> omega
  have fX1 : X1 / 16 = tx ∧ X0 ≤ X1 ∧ X1 ≤ r.x1 := by rw [hX1, hX0]; unfold imax imin; split <;> split <;> omega
  have fY0 : Y0 / 16 = ty ∧ r.y0 ≤ Y0 ∧ Y0 ≤ r.y1 := by rw [hY0]; unfold imax; split <;> omega
  have fY1 : Y1 / 16 = ty ∧ Y0 ≤ Y1 ∧ Y1 ≤ r.y1 := by rw [hY1, hY0]; unfold imax imin; split <;> split <;> omega
  clear hX0 hX1 hY0 hY1 et ep
  refine ⟨ty * acr w + tx, ?_, ?_, ?_, ?_, ?_, ?_, by omega, by omega, by omega, by omega, by omega, by omega, ?_, ?_, by omega, by omega⟩
  · have := Nat.mul_le_mul_right (acr w) (show ty + 1 ≤ acr h by omega)
    rw [Nat.add_mul] at this
    rw [Nat.mul_comm (acr w)]
    omega
  · rw [fX0.1, fY0.1, ← e1]
    push_cast
    rfl
  · rw [hm]; exact fX0.1
  · rw [hm]; exact fX1.1
  · rw [hd]; exact fY0.1
  · rw [hd]; exact fY1.1
  · rw [hm]; unfold side imin; split <;> omega
  · rw [hd]; unfold side imin; split <;> omega

theorem pcells_get (r : R4) : ∀ (n q c : Nat), q < n → c < 4 → (pcells r n)[q * 4 + c]? = (piece r q).cells[c]?
  | n + 1, q, c, hq, hc => by
    rw [pcells_succ]
    by_cases e : q = n
    · subst e
      rw [List.getElem?_append_right (by rw [pcells_length]; omega), pcells_length]
      congr 1
      omega
    · rw [List.getElem?_append_left (by rw [pcells_length]; omega)]
      exact pcells_get r n q c (by omega) hc
/-- What Pieces answers, as a row. -/
def PieceRow (W : World) (r : R4) (m : Nat) (v : Value) (W' : World) : Prop :=
  ∃ B cap cs, v = .slice (some ⟨B, 0, none⟩) m cap ∧ m ≤ cap ∧ W.heap.size ≤ B ∧ W'.heap[B]? = some (.cells cs 71 (0, 0)) ∧ ∀ q c, q < m → c < 4 → cs[q * 4 + c]? = (piece r q).cells[c]?
theorem PieceRow.of_own {W W' : World} {r : R4} {m : Nat} {v : Value} (hm : 0 < m) (h : W'.ownsRow W.heap.size 71 4 v m (pcells r m)) : PieceRow W r m v W' := by
  obtain ⟨_, ⟨_, h2⟩ | ⟨B, cap, cs, h1, h2, h3, h4, h5, h6, h7⟩⟩ := h
  · omega
  · refine ⟨B, cap, cs, h1, h4, h2, h3, ?_⟩
    intro q c hq hc
    rw [← pcells_get r m q c hq hc, ← h7, List.getElem?_take, if_pos (by omega)]
    simp
end Go.Proofs.Ytfnflgcalhiamaa

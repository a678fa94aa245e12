/- Texts of this claim, joined: LandOk, Ref18, Awake18, Made. -/
import Derived.Test.YtgofkgmhpnkchaaDownStepsPack1
import Derived.Test.YtgofkgmhpnkchaaDownStepsPack10
import Derived.Test.YtgofkgmhpnkchaaDownStepsPack11
import Derived.Test.YtgofkgmhpnkchaaDownStepsPack15
import Derived.Deep.RegionHeld3
/- hachurelaw09.Land, where the sizes are right. -/
set_option linter.unusedVariables false
set_option linter.unusedSimpArgs false
namespace Go.Proofs.Ytgofkgmhpnkchaa
open Go.RowKit

/-- The sizes are right: are the values? -/
def LandRun (w h : Int) (v : Value) (n : Nat) (u : Nat → Int) (W : World) (e : Ending) (W' : World) : Prop :=
  Below W.heap.size W W' ∧ (((∀ i, i < n → mayB (u i) = true) ∧ e = .returned (.tuple #[.agg #[.int .i64 w, .int .i64 h, v], .bool true])) ∨ ((∃ i, i < n ∧ mayB (u i) = false) ∧ e = .returned (.tuple #[.agg #[.int .i64 0, .int .i64 0, .slice none 0 0], .bool false])))

set_option maxHeartbeats 2000000 in
set_option maxRecDepth 100000 in
theorem land_run (w h most : Int) (ad : Addr) (cap : Nat) (n : Nat) (u : Nat → Int) (W : World) (hrow : RowAt W ad n u) (c1 : 1 ≤ w) (c2 : 1 ≤ h) (c3 : w ≤ 1024) (c4 : h ≤ 1024) (c5 : w * h ≤ most) (c6 : (n : Int) = w * h) :
    Calls Try.prog 12 #[.int .i64 w, .int .i64 h, .slice (some ad) n cap, .int .i64 most] W (LandRun w h (.slice (some ad) n cap) n u W) := by
  have hm := mul_bd (a := w) (b := h) (A := 1024) (B := 1024) (by omega) (by omega) (by omega) (by omega)
  obtain ⟨hm0, hm1⟩ := hm
  have wm : wrap64 (w * h) = (n : Int) := by rw [wrap64_id (by omega) (by omega)]; exact c6.symm
  have hn : n ≤ 1048576 := by omega
  have c5' : (n : Int) ≤ most := by omega
  have ht : decide (most < (n : Int)) = false := decide_eq_false (by omega)
  clear c6 c5 hm0 hm1
  have hrow1 := hrow.below (below_alloc1 W (.cells #[.int .i64 0, .int .i64 0, .slice none 0 0] 27))
  have HR := Lib.hid hrow1
  clear hrow hrow1
  go_enter Try.func12, Try.ntmps12
  go_wp2_with fail
  go_loopg [10] n (fun q v10 wr => ∃ j : Nat, Hid (j + q = n) ∧ v10 = .int .i64 (j : Int) ∧ Hid (∀ i, i < j → mayB (u i) = true) ∧ (W.alloc (.cells #[.int .i64 0, .int .i64 0, .slice none 0 0] 27)) = wr)
  case atStart => exact ⟨0, Nat.zero_add _, rfl, fun i hi => by omega, rfl⟩
  case round =>
    obtain ⟨j, hj, rfl, hg, rfl⟩ := hrel
    cases gk with
    | zero =>
      have ht2 : decide (j < n) = false := decide_eq_false (by have := hj.out; omega)
      go_wp2_with fail
      have e : j = n := hj.out
      refine bodyPost_ret (res_ct rfl rfl (blk_new _ _) agg_Model rfl) rfl ?_
      exact ⟨below_alloc1 _ _, .inl ⟨by rw [← e]; exact hg.out, rfl⟩⟩
    | succ q =>
      have hlt : j < n := by have := hj.out; omega
      have ht2 : decide (j < n) = true := decide_eq_true (by omega)
      have hc := HR.out j hlt
      have hmn : (j : Int) < (n : Int) := by omega
      by_cases hs : mayB (u j) = true
      · have Hs := Lib.hid hs
        go_wp2_with (go_at_call 41; refine (ref04_May_any (u j) _).mono ?_; rintro e w' ⟨rfl, rfl⟩)
        go_roundg q
        case measure => omega
        case rel =>
          refine ⟨j + 1, (by have := hj.out; exact (show j + 1 + q = n by omega)), by first | rfl | exact congrArg (Value.int .i64) (by omega), ?_, rfl⟩
          intro i hi
          rcases Nat.lt_or_ge i j with h | h
          · exact hg.out i h
          · have : i = j := by omega
            subst this
            exact Hs.out
      · have hs' : mayB (u j) = false := by simpa using hs
        have Hs := Lib.hid hs'
        clear hs
        go_wp2_with (go_at_call 41; refine (ref04_May_any (u j) _).mono ?_; rintro e w' ⟨rfl, rfl⟩)
        refine bodyPost_ret (res_ct rfl rfl (blk_new _ _) agg_Model rfl) rfl ?_
        exact ⟨below_alloc1 _ _, .inr ⟨⟨j, hlt, Hs.out⟩, rfl⟩⟩

/-- A land, or none. -/
def LandAny (w h most : Int) (v : Value) (n : Nat) (u : Nat → Int) (W : World) (e : Ending) (W' : World) : Prop :=
  Below W.heap.size W W' ∧ ((LandOk w h most n u ∧ e = .returned (.tuple #[.agg #[.int .i64 w, .int .i64 h, v], .bool true])) ∨ (¬ LandOk w h most n u ∧ e = .returned (.tuple #[.agg #[.int .i64 0, .int .i64 0, .slice none 0 0], .bool false])))
theorem land_any (w h most : Int) (v : Value) (n : Nat) (u : Nat → Int) (W : World) (hv : ArgAt W v n u) :
    Calls Try.prog 12 #[.int .i64 w, .int .i64 h, v, .int .i64 most] W (LandAny w h most v n u W) := by
  by_cases hn : 1 ≤ w ∧ 1 ≤ h ∧ w ≤ 1024 ∧ h ≤ 1024 ∧ w * h ≤ most ∧ (n : Int) = w * h
  · obtain ⟨c1, c2, c3, c4, c5, c6⟩ := hn
    obtain ⟨o, cap, rfl, h1, h2⟩ := hv
    have hm := Int.mul_le_mul c1 c2 (by omega) (by omega)
    obtain ⟨ad, rfl, hr⟩ := h2 (by omega)
    refine (land_run w h most ad cap n u W hr c1 c2 c3 c4 c5 c6).mono ?_
    rintro e w' ⟨hb, ⟨hm, rfl⟩ | ⟨⟨i, hi, hf⟩, rfl⟩⟩
    · exact ⟨hb, .inl ⟨⟨c1, c2, c3, c4, c5, c6, hm⟩, rfl⟩⟩
    · exact ⟨hb, .inr ⟨(fun H => by rw [H.may i hi] at hf; cases hf), rfl⟩⟩
  · refine (land_none w h most v n u W hv hn).mono ?_
    rintro e w' ⟨rfl, hb⟩
    exact ⟨hb, .inr ⟨fun H => hn ⟨H.w1, H.h1, H.w2, H.h2, H.most, H.len⟩, rfl⟩⟩
end Go.Proofs.Ytgofkgmhpnkchaa
/- hachureref18.Level. -/
set_option linter.unusedVariables false
set_option linter.unusedSimpArgs false
namespace Go.Proofs.Ytgofkgmhpnkchaa
open Go.RowKit

/-- A model's values grow, one by one. -/
def GrowD (w9 : World) (D : Nat) (w h : Int) (g : Nat → Int) (j : Nat) (wr : World) : Prop :=
  ∃ vj, wr.heap[D]? = some (.cells #[.int .i64 w, .int .i64 h, vj] 27 (0, 0)) ∧ Hid (wr.ownsRow w9.heap.size 2 1 vj j (vals g j)) ∧ Mod (fun k => k = D) w9 wr
/-- The level's model. -/
def R18Out (how : Int) (f : Int → Int → Int) (w h : Int) (k : Nat) (W : World) (e : Ending) (W' : World) : Prop :=
  ∃ kk n cap, e = .returned (.tuple #[.agg #[.int .i64 (lw w k), .int .i64 (lw h k), .slice (some ⟨kk, 0, none⟩) n cap], .int .i64 0]) ∧ (n : Int) = lw w k * lw h k ∧ RowAt W' ⟨kk, 0, none⟩ n (lin (downF how f w h k) (lw w k)) ∧ Below W.heap.size W W'

set_option maxHeartbeats 2000000 in
set_option maxRecDepth 100000 in
theorem ref18_bad (how k : Int) (ad : Addr) (cap0 N : Nat) (w h : Int) (W : World) (w1 : 1 ≤ w) (w2 : w ≤ 1024) (h1 : 1 ≤ h) (h2 : h ≤ 1024) (hk : ¬ (0 ≤ k ∧ k < (levs w h : Int) ∧ 0 ≤ how ∧ how ≤ 2)) :
    Calls Try.prog 25 #[.agg #[.int .i64 w, .int .i64 h, .slice (some ad) N cap0], .int .i64 k, .int .i64 how] W fun e W' => e = .returned (.tuple #[.agg #[.int .i64 0, .int .i64 0, .slice none 0 0], .int .i64 11]) ∧ Below W.heap.size W W' := by
  have hL := levs_bd w1 w2 h1 h2
  obtain ⟨L, hLe⟩ : ∃ L, levs w h = L := ⟨_, rfl⟩
  have HL := Lib.hid hLe
  rw [hLe] at hk hL
  clear hLe
  go_enter Try.func25, Try.ntmps25
  go_wp2_with fail
  have n0 := below_blk (below_alloc1 _ (.cells #[.int .i64 0, .int .i64 0, .slice none 0 0] 27)) (blk_new W (.cells #[.int .i64 w, .int .i64 h, .slice (some ad) N cap0] 27))
  have nR := blk_new2 W (.cells #[.int .i64 w, .int .i64 h, .slice (some ad) N cap0] 27) (.cells #[.int .i64 0, .int .i64 0, .slice none 0 0] 27)
  have hB := below_alloc (below_alloc1 W (.cells #[.int .i64 w, .int .i64 h, .slice (some ad) N cap0] 27)) (.cells #[.int .i64 0, .int .i64 0, .slice none 0 0] 27)
  refine (ref15_sizes_ok w h _ w1 w2 h1 h2).mono ?_
  rintro e w3 ⟨k0, capl, cs, rfl, hcap, hk0, hb, hrow, hcs⟩
  replace nR := below_blk hb nR
  replace n0 := below_blk hb n0
  replace hB := below_next hB hb
  rw [HL.out] at hcs ⊢
  clear hb hk0 hcap
  clear hcs hrow n0
  have r_0 := cells_w nR 0 rfl
  have r_1 := cells_w nR 1 rfl
  have r_2 := cells_w nR 2 rfl
  have z_0 := blk_frozen nR 0
  have z_1 := blk_frozen nR 1
  have z_2 := blk_frozen nR 2
  by_cases k1 : k < 0
  · have t1 := decide_eq_true k1
    go_wp2_with fail
    refine bodyPost_ret (res_ct rfl rfl (blk_set (blk_set (blk_set nR 0 _) 1 _) 2 _) agg_Model rfl) rfl ?_
    exact ⟨rfl, ((hB.setCell (by simp) _).setCell (by simp) _).setCell (by simp) _⟩
  have t1 := decide_eq_false k1
  by_cases k2 : (L : Int) ≤ k
  · have t2 := decide_eq_true k2
    go_wp2_with fail
    refine bodyPost_ret (res_ct rfl rfl (blk_set (blk_set (blk_set nR 0 _) 1 _) 2 _) agg_Model rfl) rfl ?_
    exact ⟨rfl, ((hB.setCell (by simp) _).setCell (by simp) _).setCell (by simp) _⟩
  have t2 := decide_eq_false k2
  by_cases k3 : how < 0
  · have t3 := decide_eq_true k3
    go_wp2_with fail
    refine bodyPost_ret (res_ct rfl rfl (blk_set (blk_set (blk_set nR 0 _) 1 _) 2 _) agg_Model rfl) rfl ?_
    exact ⟨rfl, ((hB.setCell (by simp) _).setCell (by simp) _).setCell (by simp) _⟩
  have t3 := decide_eq_false k3
  have t4 : decide (2 < how) = true := decide_eq_true (by omega)
  go_wp2_with fail
  refine bodyPost_ret (res_ct rfl rfl (blk_set (blk_set (blk_set nR 0 _) 1 _) 2 _) agg_Model rfl) rfl ?_
  exact ⟨rfl, ((hB.setCell (by simp) _).setCell (by simp) _).setCell (by simp) _⟩

set_option maxHeartbeats 4000000 in
set_option maxRecDepth 100000 in
theorem ref18_ok (how : Int) (k : Nat) (ad : Addr) (cap0 N : Nat) (u : Nat → Int) (w h : Int) (W : World) (w1 : 1 ≤ w) (w2 : w ≤ 1024) (h1 : 1 ≤ h) (h2 : h ≤ 1024) (hN : (N : Int) = w * h) (hRow : RowAt W ad N u) (hu : ∀ j, j < N → -2147483648 ≤ u j ∧ u j ≤ 2147483647) (hk : k < levs w h) (hhow : 0 ≤ how ∧ how ≤ 2) :
    Calls Try.prog 25 #[.agg #[.int .i64 w, .int .i64 h, .slice (some ad) N cap0], .int .i64 k, .int .i64 how] W (R18Out how (fun x y => u ((y * w + x).toNat)) w h k W) := by
  have HK := Lib.hid hk
  have HN := Lib.hid hN
  have HRow := Lib.hid hRow
  have hmay : MayF (fun x y => u ((y * w + x).toNat)) w h := fun x y b0 b1 b2 b3 => by
    have := idx_lt b0 b1 b2 b3
    exact hu _ (by omega)
  have HMAY := Lib.hid hmay
  have bw := lw_bd w1 k
  have bh := lw_bd h1 k
  obtain ⟨wn, hwn⟩ : ∃ wn : Nat, (wn : Int) = lw w k := ⟨(lw w k).toNat, by omega⟩
  obtain ⟨hn, hhn⟩ : ∃ hn : Nat, (hn : Int) = lw h k := ⟨(lw h k).toNat, by omega⟩
  have hwb : 1 ≤ wn ∧ wn ≤ 1024 := by omega
  have hhb : 1 ≤ hn ∧ hn ≤ 1024 := by omega
  have HWN := Lib.hid hwn
  have HHN := Lib.hid hhn
  clear hN hRow hu hmay bw bh hwn hhn
  have hL := levs_bd w1 w2 h1 h2
  obtain ⟨L, hLe⟩ : ∃ L, levs w h = L := ⟨_, rfl⟩
  have HL := Lib.hid hLe
  rw [hLe] at hk hL
  clear hLe
  go_enter Try.func25, Try.ntmps25
  go_wp2_with fail
  have n0 := below_blk (below_alloc1 _ (.cells #[.int .i64 0, .int .i64 0, .slice none 0 0] 27)) (blk_new W (.cells #[.int .i64 w, .int .i64 h, .slice (some ad) N cap0] 27))
  have nR := blk_new2 W (.cells #[.int .i64 w, .int .i64 h, .slice (some ad) N cap0] 27) (.cells #[.int .i64 0, .int .i64 0, .slice none 0 0] 27)
  have hB := below_alloc (below_alloc1 W (.cells #[.int .i64 w, .int .i64 h, .slice (some ad) N cap0] 27)) (.cells #[.int .i64 0, .int .i64 0, .slice none 0 0] 27)
  refine (ref15_sizes_ok w h _ w1 w2 h1 h2).mono ?_
  rintro e w3 ⟨k0, capl, cs, rfl, hcap, hk0, hb, hrow, hcs⟩
  replace nR := below_blk hb nR
  replace n0 := below_blk hb n0
  replace hB := below_next hB hb
  rw [HL.out] at hcs ⊢
  clear hb hk0 hcap
  have hrowW := HRow.out.below hB
  have HrowW := Lib.hid hrowW
  clear hrowW
  have d0 : decide ((k : Int) < 0) = false := decide_eq_false (by omega)
  have d1 : decide (L ≤ k) = false := decide_eq_false (by omega)
  have d2 : decide (how < 0) = false := decide_eq_false (by omega)
  have d3 : decide (2 < how) = false := decide_eq_false (by omega)
  have hki : (k : Int) < (L : Int) := by omega
  have hk10 : k ≤ 10 := by omega
  go_wp2_with fail
  have c0 := (blk_cell hrow (k * 2)).trans (hcs k hk).1
  have c1 := (blk_cell hrow (k * 2 + 1)).trans (hcs k hk).2
  rw [← HWN.out] at c0
  rw [← HHN.out] at c1
  have ca := fun o => cell_drew (cell_alloc (o := o) c0)
  have cb := fun o => cell_drew (cell_alloc (o := o) c1)
  have cc := cell_drew c0
  have cd := cell_drew c1
  clear hcs
  go_region
  clear ca cb cc cd c0 c1 hrow
  have nD : ((w3.alloc (.cells #[.int .i64 (wn : Int), .int .i64 (hn : Int), .slice none 0 0] 27)).drew).heap[w3.heap.size]? = some (.cells #[.int .i64 (wn : Int), .int .i64 (hn : Int), .slice none 0 0] 27 (0, 0)) := blk_drew (blk_new _ _)
  have hb11 : Below w3.heap.size w3 ((w3.alloc (.cells #[.int .i64 (wn : Int), .int .i64 (hn : Int), .slice none 0 0] 27)).drew) := below_drew1 (below_alloc1 _ _)
  obtain ⟨w11, hw11⟩ : ∃ w11, ((w3.alloc (.cells #[.int .i64 (wn : Int), .int .i64 (hn : Int), .slice none 0 0] 27)).drew) = w11 := ⟨_, rfl⟩
  rw [hw11] at nD hb11 ⊢
  have l0 := blk_lt n0
  have lR := blk_lt nR
  obtain ⟨D, hD⟩ : ∃ D, w3.heap.size = D := ⟨_, rfl⟩
  rw [hD] at nD l0 lR ⊢
  have hadW : ad.block < D := by
    have h8 := mul_bd (a := 1) (b := 1) (A := w) (B := h) (by omega) w1 (by omega) h1
    have h9 := HN.out
    have := World.block_lt_of_cell? w3 _ (HrowW.out 0 (by omega))
    rw [add_block, hD] at this
    exact this
  have hDW : W.heap.size ≤ D := by have := hB.size; omega
  have hDlt := blk_lt nD
  obtain ⟨E, hE⟩ : ∃ E, W.heap.size = E := ⟨_, rfl⟩
  have HB11 := Lib.hid (below_next hB hb11)
  rw [hE] at n0 nR l0 lR hDW ⊢
  have HE := Lib.hid hE
  have m0 := below_blk hb11 n0
  have mR := below_blk hb11 nR
  have HR11 := Lib.hid (HrowW.out.below hb11)
  have HNE := Lib.hid (And.intro (show ad.block ≠ D by omega) (And.intro (show E ≠ D by omega) (show E + 1 ≠ D by omega)))
  have hn11 : E + 1 < w11.heap.size := by omega
  have hED : E ≤ D := by omega
  clear hw11 hb11 hD hE HrowW HRow hB n0 nR l0 lR hadW hDW d0 d1
  go_wp2_with fail
  go_loopg [10] hn (fun q v10 wr => ∃ j : Nat, Hid (j + q = hn) ∧ v10 = .int .i64 (j : Int) ∧ Hid (GrowD w11 D wn hn (lin (downF how (fun x y => u ((y * w + x).toNat)) w h k) wn) (wn * j) wr))
  case atStart => exact ⟨0, Nat.zero_add _, rfl, _, nD, (show w11.ownsRow w11.heap.size 2 1 (.slice none 0 0) (wn * 0) (vals _ (wn * 0)) by simpa [vals] using World.ownsRow_nil w11 w11.heap.size 2 1), Mod.refl _ _⟩
  case round =>
    clear nD
    obtain ⟨j, hj, rfl, hSt⟩ := hrel
    cases gk with
    | zero =>
      obtain ⟨vj, nr, hown, hM⟩ := hSt.out
      have ht : decide (j < hn) = false := decide_eq_false (by have := hj.out; omega)
      have ht2 : decide ((j : Int) < (hn : Int)) = false := decide_eq_false (by have := hj.out; omega)
      have ej : j = hn := hj.out
      obtain ⟨k9, cap9, cs9, hv9, hc1, hc2, hc3, hc4⟩ := own_row hown.out (by rw [ej]; have := Nat.mul_le_mul hwb.1 hhb.1; omega)
      subst hv9
      have HR9 := Lib.hid (RowAt.of_blk hc3 (fun i hi => hc4 i _ (vals_get _ hi)))
      have HEJ := Lib.hid ej
      have nRr := hM.blk mR HNE.out.2.2
      have HC2 := Lib.hid hc2
      clear hc1 hc2 hc3 hc4 hown hSt ej
      have a_0 := cells_w nr 0 rfl
      have a_1 := cells_w nr 1 rfl
      have a_2 := cells_w nr 2 rfl
      have b_0 := cells_w nRr 0 rfl
      have b_1 := cells_w nRr 1 rfl
      have b_2 := cells_w nRr 2 rfl
      have z_0 := blk_frozen nRr 0
      have z_1 := blk_frozen nRr 1
      have z_2 := blk_frozen nRr 2
      go_wp2_with fail
      refine bodyPost_ret (res_ct rfl rfl (blk_set (blk_set (blk_set nRr 0 _) 1 _) 2 _) agg_Model rfl) rfl ?_
      have hset : Mod (fun t => t = E + 1) wr (((wr.setCell ⟨E + 1, 0, none⟩ (.int .i64 (wn : Int))).setCell ⟨E + 1, 1, none⟩ (.int .i64 (hn : Int))).setCell ⟨E + 1, 2, none⟩ (.slice (some ⟨k9, 0, none⟩) (wn * j) cap9)) := (((Mod.refl (fun t => t = E + 1) wr).setCell (p := ⟨E + 1, 0, none⟩) (.inl rfl) _).setCell (p := ⟨E + 1, 1, none⟩) (.inl rfl) _).setCell (p := ⟨E + 1, 2, none⟩) (.inl rfl) _
      have hEW := HE.out
      refine ⟨k9, wn * j, cap9, ?_, ?_, ?_, (HB11.out.trans (hM.below HB11.out.size (fun t ht => by omega))).trans (hset.below (by have := HB11.out.size; have := hM.size; omega) (fun t ht => by omega))⟩
      · rw [← HWN.out, ← HHN.out]; rfl
      · rw [HEJ.out, ← HWN.out, ← HHN.out]; push_cast; rfl
      · rw [← HWN.out]
        exact HR9.out.mod hset (by have := HC2.out; show ¬ (k9 = E + 1); omega)
    | succ m =>
      have hjh : j < hn := by have := hj.out; omega
      have ht : decide (j < hn) = true := decide_eq_true hjh
      have ht2 : decide ((j : Int) < (hn : Int)) = true := decide_eq_true (by omega)
      have nr0 := hSt.out
      obtain ⟨vj0, nr0, _, _⟩ := nr0
      have a_0 := cells_w nr0 0 rfl
      have a_1 := cells_w nr0 1 rfl
      have a_2 := cells_w nr0 2 rfl
      go_wp2_with fail
      clear a_0 a_1 a_2 nr0
      go_loopg [11] wn (fun q v11 wi => ∃ i : Nat, Hid (i + q = wn) ∧ v11 = .int .i64 (i : Int) ∧ Hid (GrowD w11 D wn hn (lin (downF how (fun x y => u ((y * w + x).toNat)) w h k) wn) (wn * j + i) wi))
      case atStart => exact ⟨0, Nat.zero_add _, rfl, hSt⟩
      case round =>
        clear hSt
        obtain ⟨i, hi, rfl, hSt⟩ := hrel
        obtain ⟨vj, nr, hown, hM⟩ := hSt.out
        have a_0 := cells_w nr 0 rfl
        have a_1 := cells_w nr 1 rfl
        have a_2 := cells_w nr 2 rfl
        cases gk with
        | zero =>
          have ht3 : decide (i < wn) = false := decide_eq_false (by have := hi.out; omega)
          have ht4 : decide ((i : Int) < (wn : Int)) = false := decide_eq_false (by have := hi.out; omega)
          go_wp2_with fail
          go_roundg m
          case measure => omega
          case rel =>
            have e : i = wn := hi.out
            rw [e] at hSt
            exact ⟨j + 1, by have := hj.out; exact (show j + 1 + m = hn by omega), by first | rfl | (exact congrArg (Value.int .i64) (by push_cast; omega)), hSt⟩
        | succ m2 =>
          have hiw : i < wn := by have := hi.out; omega
          have ht3 : decide (i < wn) = true := decide_eq_true hiw
          have ht4 : decide ((i : Int) < (wn : Int)) = true := decide_eq_true (by omega)
          have hx : (i : Int) < lw w k := by have := HWN.out; omega
          have hy : (j : Int) < lw h k := by have := HHN.out; omega
          have HXY := Lib.hid (And.intro hx hy)
          have sx := spanN_eq (x := (i : Int)) (by omega) hx
          have sy := spanN_eq (x := (j : Int)) (by omega) hy
          obtain ⟨X0, hX0⟩ : ∃ X0, (i : Int) * 2 ^ k = X0 := ⟨_, rfl⟩
          obtain ⟨Y0, hY0⟩ : ∃ Y0, (j : Int) * 2 ^ k = Y0 := ⟨_, rfl⟩
          obtain ⟨X1, hX1⟩ : ∃ X1, imin (((i : Int) + 1) * 2 ^ k - 1) (w - 1) = X1 := ⟨_, rfl⟩
          obtain ⟨Y1, hY1⟩ : ∃ Y1, imin (((j : Int) + 1) * 2 ^ k - 1) (h - 1) = Y1 := ⟨_, rfl⟩
          obtain ⟨rw, hrw⟩ : ∃ rw, spanN w k i = rw := ⟨_, rfl⟩
          obtain ⟨rh, hrh⟩ : ∃ rh, spanN h k j = rh := ⟨_, rfl⟩
          rw [hX0, hX1, hrw] at sx
          rw [hY0, hY1, hrh] at sy
          have HD : Hid (downF how (fun x y => u ((y * w + x).toNat)) w h k i j = wayL how (rowG (fun x y => u ((y * w + x).toNat)) X0 Y0 rw) (rw * rh)) := by
            show downF how (fun x y => u ((y * w + x).toNat)) w h k i j = _
            unfold downF
            rw [hX0, hY0, hrw, hrh]
          have HXE := Lib.hid (And.intro hX0 (And.intro hY0 (And.intro hX1 hY1)))
          have HSX := Lib.hid sx
          have HSY := Lib.hid sy
          have hmm := Nat.mul_le_mul (show rw ≤ 1024 by omega) (show rh ≤ 1024 by omega)
          have hm1 := Nat.mul_le_mul sx.2.2.2.2 sy.2.2.2.2
          have hnb : 1 ≤ rw * rh ∧ rw * rh ≤ 1048576 := by omega
          have HNB := Lib.hid hnb
          have HMR := Lib.hid (may_row HMAY.out sx.2.1 sx.2.2.2.1 sy.2.1 sy.2.2.2.1 sx.1 sy.1 sx.2.2.2.2)
          have hlen : wn * j + i < wn * hn := by
            have := Nat.mul_le_mul_left wn (show j + 1 ≤ hn by omega)
            rw [Nat.mul_add] at this
            omega
          have hlen2 : wn * hn ≤ 1048576 := Nat.mul_le_mul hwb.2 hhb.2
          have hlen3 : wn * j + i + 1 ≤ 1048576 := by omega
          clear hX0 hY0 hX1 hY1 hrw hrh sx sy hmm hm1 hnb hlen hlen2 hx hy hSt
          go_wp2_with fail
          clear a_0 a_1 a_2
          have n0r := hM.blk m0 HNE.out.2.1
          have o0 := cells_w n0r 0 rfl
          have o1 := cells_w n0r 1 rfl
          have o2 := cells_w n0r 2 rfl
          have hkeep : ∀ w' : World, Below wr.heap.size wr w' → (Below wr.heap.size wr w' ∧ w'.cell? ⟨E, 0, none⟩ = some (.int .i64 w) ∧ w'.cell? ⟨E, 1, none⟩ = some (.int .i64 h) ∧ w'.cell? ⟨E, 2, none⟩ = some (.slice (some ad) N cap0)) :=
            fun w' hb => ⟨hb, below_cell hb o0, below_cell hb o1, below_cell hb o2⟩
          have HKP := Lib.hid hkeep
          have HRr := Lib.hid (HR11.out.mod hM HNE.out.1)
          have HMM := Lib.hid hM
          have HNR := Lib.hid nr
          have HOWN := Lib.hid hown.out
          clear o0 o1 o2 hkeep n0r hM nr hown
          go_region_held3 (fun w' => Below wr.heap.size wr w' ∧ w'.cell? ⟨E, 0, none⟩ = some (.int .i64 w) ∧ w'.cell? ⟨E, 1, none⟩ = some (.int .i64 h) ∧ w'.cell? ⟨E, 2, none⟩ = some (.slice (some ad) N cap0))
            (first | (refine HKP.out _ ?_; first | exact below_drew1 (Below.refl _ _) | assumption))
            (first | (go_at_call 48; refine (ref16_Span_ok w h i j k _ _ w1 w2 h1 h2 hk10 (by omega) HXY.out.1 (by omega) HXY.out.2 ⟨_, _, _, rfl⟩).mono ?_; rw [HXE.out.1, HXE.out.2.1, HXE.out.2.2.1, HXE.out.2.2.2]; rintro e w5 ⟨rfl, hb5⟩; have hbx : Below wr.heap.size wr w5 := below_undrew hb5) | (go_at_call 47; refine (ref09_Values_ok ad cap0 N u w h X0 Y0 X1 Y1 w5 w1 w2 h1 h2 HN.out (HRr.out.below hbx) HSX.out.2.1 HSX.out.2.2.1 HSX.out.2.2.2.1 HSY.out.2.1 HSY.out.2.2.1 HSY.out.2.2.2.1 rw rh HSX.out.1 HSY.out.1).mono ?_; rintro e w6 ⟨k6, cap6, cs6, rfl, hcap6, hk6, hb6, hrow6, hcs6⟩; have hby := below_next hbx hb6))
          have HR6 := Lib.hid (RowAt.of_blk hrow6 hcs6)
          have HM6 := Lib.hid (HMM.out.then_below hby)
          have HN6 := Lib.hid (below_blk hby HNR.out)
          have HO6 := Lib.hid (own_below HOWN.out hby)
          clear hcs6 hrow6 hb6 hby hb5 hbx HMM HNR HOWN HKP HRr hk6 hcap6
          go_wp2_with fail
          refine (ref08_Range_ok ⟨k6, 0, none⟩ (rw * rh) cap6 _ w6 HNB.out.1 HNB.out.2 HR6.out).mono ?_
          rintro e w7 ⟨ra, rb, rfl, hrl, hb7⟩
          have hab := hrl.unique (rngL_lohi _ _ HNB.out.1)
          have HAB := Lib.hid hab
          have HR7 := Lib.hid (HR6.out.below hb7)
          have HM7 := Lib.hid (HM6.out.then_below hb7)
          have n7 := below_blk hb7 HN6.out
          have hown7 := own_below HO6.out hb7
          clear hrl hab HR6 HM6 HN6 HO6 hb7
          have hs7 := HM7.out.size
          have hoD : ∀ t, vj.ownBlock = some t → t ≠ D := fun t ht e => by have := (hown7.lt t ht).1; omega
          have HOD := Lib.hid hoD
          have hb8 := below_alloc1 w7 (.cells #[.int .i64 ra, .int .i64 rb] 39)
          have hown8 := own_below hown7 hb8
          have HM8 := Lib.hid (HM7.out.then_below hb8)
          have n8 := below_blk hb8 n7
          have HN8 := Lib.hid n8
          have HO8 := Lib.hid hown8
          have hs8 := hb8.size
          have da := fun o => cells_w (below_blk (below_alloc1 w7 o) n7) 2 rfl
          have e2 : lin (downF how (fun x y => u ((y * w + x).toNat)) w h k) wn (wn * j + i) = downF how (fun x y => u ((y * w + x).toNat)) w h k i j := by
            have h8 := lin_idx (g := downF how (fun x y => u ((y * w + x).toNat)) w h k) (w := wn) (x := (i : Int)) (y := (j : Int)) (by omega) (by omega) (by omega)
            rw [show ((j : Int) * (wn : Int) + (i : Int)).toNat = wn * j + i by rw [show (j : Int) * (wn : Int) + (i : Int) = ((wn * j + i : Nat) : Int) by push_cast; rw [Int.mul_comm]]; exact Int.toNat_natCast _] at h8
            exact h8
          rw [HD.out] at e2
          have HE2 := Lib.hid e2
          clear e2 hoD n8 n7 hown7 hown8 hb8 HD
          obtain ⟨J, hJ⟩ : ∃ J, wn * j + i = J := ⟨_, rfl⟩
          rw [hJ] at HO8 HE2 hlen3
          have HJ := Lib.hid hJ
          clear hJ
          rcases (show how = 0 ∨ how = 1 ∨ how = 2 by omega) with rfl | rfl | rfl
          · go_wp2_with (at_builtin; refine append_own w11.heap.size rfl (.tmp 84) (.tmp 87) 22 2 _ 1 8 rfl Try.underlying22 info_int64 rfl (by omega) _ _ _ [.int .i64 ra] rfl _ rfl (by simp) rfl ?_ HO8.out (by omega) (by omega) (by omega) ?_)
            · intro t ht; simp at ht; subst ht; rfl
            · intro v9 w9 hown9 hM9 hblk9 hnn9
              obtain ⟨k9, cap9, cs9, hv9, _, _, _, _⟩ := own_row hown9 (by omega)
              have n9 := hM9.blk HN8.out (fun e => HOD.out D e rfl)
              have b_0 := cells_w n9 0 rfl
              have b_1 := cells_w n9 1 rfl
              have b_2 := cells_w n9 2 rfl
              have z_0 := blk_frozen n9 0
              have z_1 := blk_frozen n9 1
              have z_2 := blk_frozen n9 2
              subst hv9
              clear da
              go_wp2_with fail
              go_roundg m2
              case measure => omega
              case rel =>
                have hset : Mod (fun t => t = D) w9 (w9.setCell ⟨D, 2, none⟩ (.slice (some ⟨k9, 0, none⟩) (J + 1) cap9)) := (Mod.refl (fun t => t = D) w9).setCell (p := ⟨D, 2, none⟩) (.inl rfl) _
                refine ⟨i + 1, by have := hi.out; exact (show i + 1 + m2 = wn by omega), by first | rfl | (exact congrArg (Value.int .i64) (by push_cast; omega)), _, by simpa using blk_set n9 2 (.slice (some ⟨k9, 0, none⟩) (J + 1) cap9), ?_, (HM8.out.trans hM9 (fun t ht => .inr (HO8.out.lt t ht).1)).trans hset (fun t ht => .inl ht)⟩
                rw [show wn * j + (i + 1) = J + 1 by rw [← HJ.out]; rfl, vals_succ, HE2.out]
                first | rw [HAB.out.1] at hown9 | rw [HAB.out.2] at hown9
                exact own_mod hown9 hset (fun t ht => by omega)
          · go_wp2_with (at_builtin; refine append_own w11.heap.size rfl (.tmp 93) (.tmp 96) 22 2 _ 1 8 rfl Try.underlying22 info_int64 rfl (by omega) _ _ _ [.int .i64 rb] rfl _ rfl (by simp) rfl ?_ HO8.out (by omega) (by omega) (by omega) ?_)
            · intro t ht; simp at ht; subst ht; rfl
            · intro v9 w9 hown9 hM9 hblk9 hnn9
              obtain ⟨k9, cap9, cs9, hv9, _, _, _, _⟩ := own_row hown9 (by omega)
              have n9 := hM9.blk HN8.out (fun e => HOD.out D e rfl)
              have b_0 := cells_w n9 0 rfl
              have b_1 := cells_w n9 1 rfl
              have b_2 := cells_w n9 2 rfl
              have z_0 := blk_frozen n9 0
              have z_1 := blk_frozen n9 1
              have z_2 := blk_frozen n9 2
              subst hv9
              clear da
              go_wp2_with fail
              go_roundg m2
              case measure => omega
              case rel =>
                have hset : Mod (fun t => t = D) w9 (w9.setCell ⟨D, 2, none⟩ (.slice (some ⟨k9, 0, none⟩) (J + 1) cap9)) := (Mod.refl (fun t => t = D) w9).setCell (p := ⟨D, 2, none⟩) (.inl rfl) _
                refine ⟨i + 1, by have := hi.out; exact (show i + 1 + m2 = wn by omega), by first | rfl | (exact congrArg (Value.int .i64) (by push_cast; omega)), _, by simpa using blk_set n9 2 (.slice (some ⟨k9, 0, none⟩) (J + 1) cap9), ?_, (HM8.out.trans hM9 (fun t ht => .inr (HO8.out.lt t ht).1)).trans hset (fun t ht => .inl ht)⟩
                rw [show wn * j + (i + 1) = J + 1 by rw [← HJ.out]; rfl, vals_succ, HE2.out]
                first | rw [HAB.out.1] at hown9 | rw [HAB.out.2] at hown9
                exact own_mod hown9 hset (fun t ht => by omega)
          · have HN9 := HN8
            go_wp2_with fail
            obtain ⟨w8, hw8⟩ : ∃ w8, w7.alloc (.cells #[.int .i64 ra, .int .i64 rb] 39) = w8 := ⟨_, rfl⟩
            have HR8 := Lib.hid (HR7.out.below (below_alloc1 w7 (.cells #[.int .i64 ra, .int .i64 rb] 39)))
            rw [hw8] at HN8 HO8 HM8 hs8 HR8 ⊢
            have cP := cells_w HN8.out 2 rfl
            have cP1 := fun o => cell_alloc (o := o) cP
            have hs11 : w11.heap.size ≤ w8.heap.size := by omega
            clear da hw8 HN9
            go_region_law
              (first | (refine step_append_own_new w11.heap.size rfl (.tmp 75) (.tmp 78) 22 2 _ 1 8 rfl Try.underlying22 info_int64 rfl (by omega) _ J _ [.int .i64 (meanL (rowG (fun x y => u ((y * w + x).toNat)) X0 Y0 rw) (rw * rh))] rfl _ rfl (by first | exact blk_new_at (by simp) | exact blk_drew (blk_new_at (by simp))) rfl (by intro t ht; simp at ht; subst ht; rfl) (own_below HO8.out (by repeat (first | exact Below.refl _ _ | refine below_drew1 ?_ | refine below_alloc ?_ _))) (by simp; omega) (by omega) (by omega) ?_; rintro k9 cap9 w9 h9; have HN9 : Hid (w9.heap[D]? = some (.cells #[.int .i64 (wn : Int), .int .i64 (hn : Int), vj] 27 (0, 0))) := h9.out.2.1.blk (by repeat (first | exact HN8.out | refine blk_drew ?_ | refine below_blk (below_alloc1 _ _) ?_)) (fun e => HOD.out D e rfl); have cP9 := cells_w HN9.out 2 rfl; have zP9 := blk_frozen HN9.out 2; have HO9 : Hid (w9.ownsRow w11.heap.size 2 1 (.slice (some ⟨k9, 0, none⟩) (J + 1) cap9) (J + 1) (vals (lin (downF 2 (fun x y => u ((y * w + x).toNat)) w h k) wn) J ++ [.int .i64 (meanL (rowG (fun x y => u ((y * w + x).toNat)) X0 Y0 rw) (rw * rh))])) := h9.out.1; have HM9 : Hid (Mod (fun k => vj.ownBlock = some k) w8 w9) := (Mod.of_below (by repeat (first | exact Below.refl _ _ | refine below_drew1 ?_ | refine below_alloc ?_ _))).trans h9.out.2.1 (fun _ x => .inl x); clear h9) | (go_simp; go_at_call 61; refine (ref18_mean_ok ⟨k6, 0, none⟩ (rw * rh) cap6 _ _ HNB.out.1 HNB.out.2 HMR.out (HR8.out.below (by first | exact below_drew1 (Below.refl _ _) | exact Below.refl _ _))).mono ?_; rintro e w' ⟨rfl, rfl⟩))
            all_goals
              clear cP cP1 cP9 zP9
              go_wp2_with fail
              go_roundg m2
              case measure => omega
              case rel =>
                have hset : Mod (fun t => t = D) w9 (w9.setCell ⟨D, 2, none⟩ (.slice (some ⟨k9, 0, none⟩) (J + 1) cap9)) := (Mod.refl (fun t => t = D) w9).setCell (p := ⟨D, 2, none⟩) (.inl rfl) _
                refine ⟨i + 1, by have := hi.out; exact (show i + 1 + m2 = wn by omega), by first | rfl | (exact congrArg (Value.int .i64) (by push_cast; omega)), _, by simpa using blk_set HN9.out 2 (.slice (some ⟨k9, 0, none⟩) (J + 1) cap9), ?_, (HM8.out.trans HM9.out (fun t ht => .inr (HO8.out.lt t ht).1)).trans hset (fun t ht => .inl ht)⟩
                rw [show wn * j + (i + 1) = J + 1 by rw [← HJ.out]; rfl, vals_succ, HE2.out]
                exact own_mod HO9.out hset (fun t ht => by omega)
end Go.Proofs.Ytgofkgmhpnkchaa
/- hachurelaw18.awake: the chapter's example. -/
set_option linter.unusedVariables false
set_option linter.unusedSimpArgs false
namespace Go.Proofs.Ytgofkgmhpnkchaa
open Go.RowKit

def ex2 : Nat → Int := fun i => if i = 0 then 3 else 4
set_option maxHeartbeats 2000000 in
set_option maxRecDepth 100000 in
theorem awake18_ok (W : World) : Calls Try.prog 23 #[] W fun e W' => e = .returned (.bool true) ∧ Below W.heap.size W W' := by
  go_enter Try.func23, Try.ntmps23
  go_wp2_with fail
  have n1 := blk_new W (.cells #[.int .i64 3, .int .i64 4] 2)
  have hrow : RowAt (W.alloc (.cells #[.int .i64 3, .int .i64 4] 2)) ⟨W.heap.size, 0, none⟩ (2 * 1) ex2 := RowAt.of_blk n1 (fun i hi => by
    rcases (by omega : i = 0 ∨ i = 1) with rfl | rfl <;> rfl)
  refine (paint_From_ok 2 1 _ (by omega) (by omega) (by omega) (by omega) ⟨W.heap.size, 0, none⟩ 2 ex2 (fun j hj => by unfold ex2; split <;> omega) hrow).mono ?_
  rintro e w2 ⟨g, F, rfl, hb, hF, HG⟩
  have hB := below_next (below_alloc1 W _) hb
  clear hb hrow n1
  go_wp2_with fail
  refine (level_2 g F _ _ 1 _ w2 HG (by decide +kernel) (fun x y _ _ _ _ => by unfold ex2; split <;> omega)).mono ?_
  rintro e w3 ⟨g2, F2, rfl, hb, hF2, HG2⟩
  replace hB := below_next hB hb
  clear hb HG
  go_wp2_with fail
  refine (grid_At_ok g2 F2 _ _ 0 0 _ w3 HG2 (by omega) (by decide +kernel) (by omega) (by decide +kernel)).mono ?_
  rw [show downF 2 (fun x y => ex2 ((y * ((2 : Nat) : Int) + x).toNat)) ((2 : Nat) : Int) ((1 : Nat) : Int) 1 0 0 = 3 from by decide +kernel]
  rintro e w4 ⟨rfl, hb⟩
  replace hB := below_next hB hb
  go_wp2_with fail
  go_ret
  exact ⟨rfl, hB⟩
end Go.Proofs.Ytgofkgmhpnkchaa
/- hachurelaw09.Made: a grid with values, set one by one. -/
set_option linter.unusedVariables false
set_option linter.unusedSimpArgs false
namespace Go.Proofs.Ytgofkgmhpnkchaa
open Go.RowKit

/-- The first j values are set. -/
def setF (w : Nat) (u : Nat → Int) (j : Nat) : Int → Int → Int := fun x y => if (y * w + x).toNat < j then u ((y * w + x).toNat) else 0
/-- Up to j values are set in a grid of the call's own. -/
def MadeStep (g : Nat) (w h : Int) (f : Int → Int → Int) (W wr : World) : Prop := ∃ F, Below W.heap.size W wr ∧ (∀ k, F k → W.heap.size ≤ k) ∧ GridAt wr g F w h f
/-- A made grid. -/
def GridMade (w h : Int) (f : Int → Int → Int) (W : World) (e : Ending) (W' : World) : Prop :=
  ∃ g F, e = .returned (.tuple #[.pointer (some ⟨g, 0, none⟩), .bool true]) ∧ Below W.heap.size W W' ∧ (∀ k, F k → W.heap.size ≤ k) ∧ GridAt W' g F w h f
theorem set_step {w h j : Nat} {u : Nat → Int} (hw : 1 ≤ w) (hj : j < w * h) : ∀ x y, 0 ≤ x → x < (w : Int) → 0 ≤ y → y < (h : Int) → setF w u (j + 1) x y = fillF (setF w u j) ((j % w : Nat) : Int) ((j / w : Nat) : Int) ((j % w : Nat) : Int) ((j / w : Nat) : Int) (u j) x y := by
  intro x y a1 a2 a3 a4
  have he := Nat.div_add_mod j w
  have hm : j % w < w := Nat.mod_lt j (by omega)
  have k1 := lex_lt (X := x) (Y := y) (rw := w) (J := j / w) (K := j % w) a1 a2 a3 (by omega)
  have k2 := lex_lt (X := x) (Y := y) (rw := w) (J := j / w) (K := j % w + 1) a1 a2 a3 (by omega)
  rw [he] at k1
  rw [← Nat.add_assoc, he] at k2
  generalize j % w = I at *
  generalize j / w = J at *
  unfold setF fillF
  dsimp only
  by_cases hf : inR (I : Int) (J : Int) (I : Int) (J : Int) x y
  · have hf' := hf
    unfold inR at hf'
    rw [if_pos hf, if_pos (k2.2 (by omega))]
    congr 1
    have : y * (w : Int) = ((w * J : Nat) : Int) := by rw [show y = (J : Int) by omega]; push_cast; rw [Int.mul_comm]
    omega
  · rw [if_neg hf]
    have hf' : ¬ (x = I ∧ y = J) := fun z => hf (by unfold inR; omega)
    by_cases hk : (y * (w : Int) + x).toNat < j
    · rw [if_pos (by omega), if_pos hk]
    · rw [if_neg (fun z => by have a := k2.1 z; have b := mt k1.2 hk; omega), if_neg hk]
theorem set_keep {w h j : Nat} {u : Nat → Int} (hw : 1 ≤ w) (hj : j < w * h) (hu : u j = 0) : ∀ x y, 0 ≤ x → x < (w : Int) → 0 ≤ y → y < (h : Int) → setF w u (j + 1) x y = setF w u j x y := by
  intro x y a1 a2 a3 a4
  unfold setF
  by_cases hk : (y * (w : Int) + x).toNat < j
  · rw [if_pos (by omega), if_pos hk]
  · rw [if_neg hk]
    by_cases hk2 : (y * (w : Int) + x).toNat < j + 1
    · rw [if_pos hk2, show (y * (w : Int) + x).toNat = j by omega, hu]
    · rw [if_neg hk2]
theorem set_all {w h : Nat} {u : Nat → Int} (hw : 1 ≤ w) : ∀ x y, 0 ≤ x → x < (w : Int) → 0 ≤ y → y < (h : Int) → u ((y * (w : Int) + x).toNat) = setF w u (w * h) x y := by
  intro x y a1 a2 a3 a4
  obtain ⟨h1, h2⟩ := idx_lt a1 a2 a3 a4
  unfold setF
  rw [if_pos (by have : ((w * h : Nat) : Int) = w * h := by { push_cast; rfl }; omega)]

set_option maxHeartbeats 1000000 in
set_option maxRecDepth 100000 in
theorem made_ok (w h : Nat) (W : World) (w1 : 1 ≤ w) (w2 : w ≤ 1024) (h1 : 1 ≤ h) (h2 : h ≤ 1024) (ad : Addr) (cap : Nat) (u : Nat → Int) (hu : ∀ j, j < w * h → -2147483648 ≤ u j ∧ u j ≤ 2147483647) (hrow : RowAt W ad (w * h) u) :
    Calls Try.prog 13 #[.int .i64 w, .int .i64 h, .slice (some ad) (w * h) cap] W (GridMade w h (fun x y => u ((y * w + x).toNat)) W) := by
  have HU := Lib.hid hu
  clear hu
  have hm := Nat.mul_le_mul w2 h2
  have wm : wrap64 ((w : Int) * (h : Int)) = ((w * h : Nat) : Int) := by rw [← Int.natCast_mul, wrap64_id (by omega) (by omega)]
  obtain ⟨N, hN⟩ : ∃ N, w * h = N := ⟨_, rfl⟩
  rw [hN] at hm wm hrow ⊢
  have HN := Lib.hid hN
  clear hN
  go_enter Try.func13, Try.ntmps13
  go_wp2_with fail
  refine (grid_New_ok w h 0 W (by omega) (by omega) (by omega) (by omega) (by omega) (by omega)).mono ?_
  rintro e w3 ⟨g, F, rfl, hB, hF, HG⟩
  go_wp2_with fail
  simp only [wm]
  go_loopg [10] N (fun q v10 wr => ∃ j : Nat, Hid (j + q = N) ∧ v10 = .int .i64 (j : Int) ∧ MadeStep g w h (setF w u j) W wr)
  case atStart => exact ⟨0, Nat.zero_add _, rfl, F, hB, hF, HG.congr (fun x y _ _ _ _ => by unfold setF; rw [if_neg (by omega)])⟩
  case round =>
    clear HG hF hB
    obtain ⟨j, hj, rfl, F1, hB, hF, HG⟩ := hrel
    cases gk with
    | zero =>
      have ht : decide ((j : Int) < (N : Int)) = false := decide_eq_false (by have := hj.out; omega)
      have ht2 : decide (j < N) = false := decide_eq_false (by have := hj.out; omega)
      go_wp2_with fail
      go_ret2
      have ej : j = N := hj.out
      refine ⟨g, F1, rfl, hB, hF, HG.congr ?_⟩
      rw [ej, ← HN.out]
      exact set_all w1
    | succ q =>
      have hlt : j < N := by have := hj.out; omega
      have ht : decide ((j : Int) < (N : Int)) = true := decide_eq_true (by omega)
      have ht2 : decide (j < N) = true := decide_eq_true hlt
      have hc := (hrow.below hB) j hlt
      have qc := fun d os => cell_regrown hc d os
      have hji : (j : Int) < (N : Int) := by omega
      by_cases hz : u j = 0
      · have hb : (u j != 0) = false := by simp [hz]
        have HZ := Lib.hid hz
        clear hz
        go_wp2_with fail
        refine wp_quiet (by kernel_rfl) (by kernel_rfl) ?_
        repeat (go_big_quiet_step ((first | fail)))
        refine wpQuiet_nil ?_
        intro w5 hb5
        clear qc
        go_wp2_with fail
        go_roundg q
        case measure => omega
        case rel =>
          exact ⟨j + 1, by have := hj.out; exact (show j + 1 + q = N by omega), by first | rfl | exact congrArg (Value.int .i64) (by push_cast; omega), F1, below_next hB hb5, hF, (HG.below hb5).congr (set_keep w1 (by rw [HN.out]; exact hlt) HZ.out)⟩
      · have hb : (u j != 0) = true := by simp [hz]
        clear hz
        go_wp2_with fail
        refine wp_tail 18 (by kernel_rfl) (by kernel_rfl) ?_
        simp only [List.take_succ_cons, List.take_zero, List.drop_succ_cons, List.drop_zero]
        repeat (go_big_quiet_step ((first | fail)))
        refine wpQuiet_nil ?_
        intro w5 hb5
        clear qc
        have hIm : j % w < w := Nat.mod_lt j (by omega)
        have hJd : j / w < h := Nat.div_lt_of_lt_mul (by rw [HN.out]; exact hlt)
        have HS := Lib.hid (fun x y b1 b2 b3 b4 => set_step (w := w) (h := h) (j := j) (u := u) w1 (by rw [HN.out]; exact hlt) x y b1 b2 b3 b4)
        generalize hI : j % w = I at *
        generalize hJ : j / w = J at *
        have m1 : (j : Int) % (w : Int) = (I : Int) := by rw [← hI]; push_cast; rfl
        have m2 : (j : Int) / (w : Int) = (J : Int) := by rw [← hJ]; push_cast; rfl
        have wJ : wrap64 (J : Int) = (J : Int) := wrap64_id (by omega) (by omega)
        clear hI hJ
        go_wp2_with fail
        refine (grid_Set_ok g F1 w h (I : Int) (J : Int) (u j) _ w5 (HG.below hb5) (by omega) (by omega) (by omega) (by omega) (HU.out j (by rw [HN.out]; exact hlt)).1 (HU.out j (by rw [HN.out]; exact hlt)).2).mono ?_
        rintro e w7 ⟨F2, rfl, hM2, hF2, HG2⟩
        have hB5 := below_next hB hb5
        have hs5 := hB5.size
        go_wp2_with fail
        go_roundg q
        case measure => omega
        case rel =>
          refine ⟨j + 1, by have := hj.out; exact (show j + 1 + q = N by omega), by first | rfl | exact congrArg (Value.int .i64) (by push_cast; omega), F2, hB5.trans (hM2.below hB5.size hF), fun k hk => ?_, HG2.congr HS.out⟩
          rcases hF2 k hk with h1 | h1
          · exact hF k h1
          · omega
end Go.Proofs.Ytgofkgmhpnkchaa

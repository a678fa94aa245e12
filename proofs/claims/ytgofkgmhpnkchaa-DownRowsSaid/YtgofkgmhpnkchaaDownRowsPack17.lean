/- Texts of this claim, joined: Levels, DownRow, Eq64, SlabCells, GridTwin, GridSame. -/
import Derived.Test.YtgofkgmhpnkchaaDownRowsPack1
import Derived.Test.YtgofkgmhpnkchaaDownRowsPack2
import Derived.Test.YtgofkgmhpnkchaaDownRowsPack5
import Derived.Test.YtgofkgmhpnkchaaDownRowsPack12
import Derived.Test.YtgofkgmhpnkchaaDownRowsPack16
import Derived.Deep.LoopGhost
/- hachurelaw18.DownLevels: the walk. -/
set_option linter.unusedVariables false
set_option linter.unusedSimpArgs false
namespace Go.Proofs.Ytgofkgmhpnkchaa
open Go.RowKit

theorem level_good (how : Int) (g : Nat) (Fg : Nat → Prop) (w h : Int) (k : Nat) (f : Int → Int → Int) (W : World) (HG : GridAt W g Fg w h f) (hk : k < levs w h) (hmay : MayF f w h) (hh : 0 ≤ how ∧ how ≤ 2) :
    Calls Try.prog 24 #[.pointer (some ⟨g, 0, none⟩), .int .i64 k, .int .i64 how] W (LevelOut how f w h k W) := by
  rcases (by omega : how = 0 ∨ how = 1 ∨ how = 2) with rfl | rfl | rfl
  · exact level_0 g Fg w h k f W HG hk hmay
  · exact level_1 g Fg w h k f W HG hk hmay
  · exact level_2 g Fg w h k f W HG hk hmay

set_option maxHeartbeats 4000000 in
set_option maxRecDepth 100000 in
theorem levels_any (w h k how : Int) (v : Value) (n : Nat) (u : Nat → Int) (W : World) (hv : ArgAt W v n u) :
    Calls Try.prog 5 #[.int .i64 w, .int .i64 h, v, .int .i64 k, .int .i64 how] W fun e W' => e = .returned (.bool true) ∧ Below W.heap.size W W' := by
  go_enter Try.func5, Try.ntmps5
  go_wp2_with fail
  refine (awake18_ok _).mono ?_
  rintro e w2 ⟨rfl, hB⟩
  go_wp2_with fail
  refine (land_any w h 1000 v n u w2 (hv.below hB)).mono ?_
  rintro e w3 ⟨hb, ⟨hland, rfl⟩ | ⟨hno, rfl⟩⟩
  rotate_left
  · replace hB := below_next hB hb
    go_wp2_with fail
    go_ret
    exact ⟨rfl, below_alloc hB _⟩
  obtain ⟨o, cap0, rfl, hn1, hn2⟩ := hv.below hB
  obtain ⟨c1, c2, c3, c4, c5, c6, c7⟩ := hland
  have hm1 := Int.mul_le_mul c1 c2 (by omega) (by omega)
  obtain ⟨ad, rfl, hr⟩ := hn2 (by omega)
  replace hr := hr.below hb
  replace hB := below_next hB hb
  obtain ⟨wn, rfl⟩ : ∃ wn : Nat, w = wn := ⟨w.toNat, by omega⟩
  obtain ⟨hn, rfl⟩ : ∃ hn : Nat, h = hn := ⟨h.toNat, by omega⟩
  have c8 : n = wn * hn := by have : ((wn * hn : Nat) : Int) = wn * hn := by { push_cast; rfl }; omega
  subst c8
  have HC := Lib.hid c6
  have hM := fun j hj => mayB_iff.1 (c7 j hj)
  have hmay : MayF (fun x y => u ((y * (wn : Int) + x).toNat)) wn hn := fun x y b0 b1 b2 b3 => by
    have := idx_lt b0 b1 b2 b3
    exact hM _ (by omega)
  have HM := Lib.hid hM
  have HMAY := Lib.hid hmay
  clear hb hv hn2 c6 c7 hm1 c5 hn1 hM hmay
  obtain ⟨N, hN⟩ : ∃ N, wn * hn = N := ⟨_, rfl⟩
  rw [hN] at hr HC HM ⊢
  have HN := Lib.hid hN
  clear hN
  go_wp2_with fail
  have nM := blk_new w3 (.cells #[.int .i64 (wn : Int), .int .i64 (hn : Int), .slice (some ad) N cap0] 27)
  have hb := below_alloc1 w3 (.cells #[.int .i64 (wn : Int), .int .i64 (hn : Int), .slice (some ad) N cap0] 27)
  obtain ⟨w4, hw4⟩ : ∃ w4, w3.alloc (.cells #[.int .i64 (wn : Int), .int .i64 (hn : Int), .slice (some ad) N cap0] 27) = w4 := ⟨_, rfl⟩
  obtain ⟨M, hM⟩ : ∃ M, w3.heap.size = M := ⟨_, rfl⟩
  rw [hM] at nM
  rw [hw4] at nM hb
  rw [hM, hw4]
  replace hr := hr.below hb
  replace hB := below_next hB hb
  clear hb hw4 hM
  have hm7 := made_ok wn hn w4 (by omega) (by omega) (by omega) (by omega) ad cap0 u (by rw [HN.out]; exact HM.out) (by rw [HN.out]; exact hr)
  rw [HN.out] at hm7
  refine hm7.mono ?_
  clear hm7
  rintro e w5 ⟨g, Fg, rfl, hb, hFg, HG⟩
  replace hr := hr.below hb
  replace nM := below_blk hb nM
  have hB5 := below_next hB hb
  clear hb hB hFg
  go_wp2_with fail
  by_cases hbad : ¬ (0 ≤ k ∧ k < (levs wn hn : Int) ∧ 0 ≤ how ∧ how ≤ 2)
  · refine (level_bad how k g Fg wn hn _ w5 HG hbad).mono ?_
    rintro e w6 ⟨rfl, hb⟩
    replace nM := below_blk hb nM
    have hB6 := below_next hB5 hb
    have HBAD := Lib.hid hbad
    clear hb hbad
    have i_0 := cells_w nM 0 rfl
    have i_1 := cells_w nM 1 rfl
    have i_2 := cells_w nM 2 rfl
    go_wp2_with fail
    refine (ref18_bad how k ad cap0 N wn hn w6 (by omega) (by omega) (by omega) (by omega) HBAD.out).mono ?_
    rintro e w7 ⟨rfl, hb⟩
    have hB7 := below_next hB6 hb
    clear hb
    go_wp2_with fail
    go_ret
    exact ⟨rfl, below_alloc hB7 _⟩
  · have hgood : 0 ≤ k ∧ k < (levs wn hn : Int) ∧ 0 ≤ how ∧ how ≤ 2 := by omega
    obtain ⟨kk, rfl⟩ : ∃ kk : Nat, k = kk := ⟨k.toNat, by omega⟩
    have HGD := Lib.hid hgood
    clear hbad hgood
    refine (level_good how g Fg wn hn kk _ w5 HG (by have := HGD.out; omega) HMAY.out HGD.out.2.2).mono ?_
    rintro e w6 ⟨g2, F2, rfl, hb, hF2, HG2⟩
    replace hr := hr.below hb
    replace nM := below_blk hb nM
    have hB6 := below_next hB5 hb
    have HG6 := HG.below hb
    clear hb HG hF2 hB5
    have i_0 := cells_w nM 0 rfl
    have i_1 := cells_w nM 1 rfl
    have i_2 := cells_w nM 2 rfl
    go_wp2_with fail
    refine (ref18_ok how kk ad cap0 N u wn hn w6 (by omega) (by omega) (by omega) (by omega) HC.out hr HM.out (by have := HGD.out; omega) HGD.out.2.2).mono ?_
    rintro e w7 ⟨q7, n7, cap7, rfl, hn7, hrow7, hb⟩
    have hb8 := below_next hb (below_alloc1 w7 (.cells #[.int .i64 (lw wn kk), .int .i64 (lw hn kk), .slice (some ⟨q7, 0, none⟩) n7 cap7] 27))
    have nM8 := below_blk hb8 nM
    have hB8 := below_next hB6 hb8
    have HR8 := Lib.hid (hr.below hb8)
    have HG8 := Lib.hid (HG6.below hb8)
    have HG28 := Lib.hid (HG2.below hb8)
    have HRW8 := Lib.hid (hrow7.below (below_alloc1 w7 (.cells #[.int .i64 (lw wn kk), .int .i64 (lw hn kk), .slice (some ⟨q7, 0, none⟩) n7 cap7] 27)))
    have HN7 := Lib.hid hn7
    have nQ := blk_new w7 (.cells #[.int .i64 (lw wn kk), .int .i64 (lw hn kk), .slice (some ⟨q7, 0, none⟩) n7 cap7] 27)
    clear hb hb8 hr HG6 HG2 hrow7 hn7 hB6 nM i_0 i_1 i_2
    go_wp2_with fail
    refine (is09_ok g2 F2 _ _ _ ⟨q7, 0, none⟩ n7 cap7 _ HG28.out HN7.out HRW8.out).mono ?_
    rintro e w9 ⟨rfl, hb⟩
    have nM9 := below_blk hb nM8
    have HB9 := Lib.hid (below_next hB8 hb)
    have HG9 := Lib.hid (HG8.out.below hb)
    have HR9 := Lib.hid (HR8.out.below hb)
    clear hb nQ hB8 nM8
    have i_0 := cells_w nM9 0 rfl
    have i_1 := cells_w nM9 1 rfl
    have i_2 := cells_w nM9 2 rfl
    go_wp2_with fail
    refine (is09_ok g Fg wn hn _ ad N cap0 w9 HG9.out HC.out (fun i hi => by
      have hl := lin_at (w := wn) (h := hn) (i := i) (by omega) (by have := HC.out; omega)
      have h8 := HR9.out i hi
      unfold lin
      dsimp only
      rw [hl.2.2.2.2, Int.toNat_natCast]
      exact h8)).mono ?_
    rintro e w10 ⟨rfl, hb⟩
    go_wp2_with fail
    go_ret
    exact ⟨rfl, below_next HB9.out hb⟩
end Go.Proofs.Ytgofkgmhpnkchaa
/- down.Row: all levels. -/
set_option linter.unusedVariables false
set_option linter.unusedSimpArgs false
namespace Go.Proofs.Ytgofkgmhpnkchaa
open Go.RowKit

theorem info_Pgrid : (Try.prog.info? 30).map (fun i => (i.zero, i.size, i.bytes)) = some (some (.pointer none), 1, 8) := by kernel_rfl
/-- The first j levels. -/
def RowStep (how : Int) (f : Int → Int → Int) (w h : Int) (w3 : World) (j : Nat) (vj : Value) (wr : World) : Prop :=
  ∃ (s : Nat → Nat) (Fs : Nat → Nat → Prop), Hid (wr.ownsRow w3.heap.size 30 1 vj j (ptrs s j)) ∧ Below w3.heap.size w3 wr ∧
    Hid (∀ i, i < j → GridAt wr (s i) (Fs i) (lw w i) (lw h i) (downF how f w h i) ∧ (∀ t, Fs i t → vj.ownBlock ≠ some t))
/-- All levels. -/
def RowOut18 (how : Int) (f : Int → Int → Int) (w h : Int) (n : Nat) (W : World) (e : Ending) (W' : World) : Prop :=
  ∃ (k cap : Nat) (s : Nat → Nat) (Fs : Nat → Nat → Prop), e = .returned (.tuple #[.slice (some ⟨k, 0, none⟩) n cap, .int .i64 0]) ∧ n ≤ cap ∧ Below W.heap.size W W' ∧
    ∀ i, i < n → W'.cell? ⟨k, i, none⟩ = some (.pointer (some ⟨s i, 0, none⟩)) ∧ GridAt W' (s i) (Fs i) (lw w i) (lw h i) (downF how f w h i)


set_option maxHeartbeats 4000000 in
set_option maxRecDepth 100000 in
theorem down_row_ok (how : Int) (g : Nat) (Fg : Nat → Prop) (w h : Int) (f : Int → Int → Int) (W : World) (HG : GridAt W g Fg w h f) (hmay : MayF f w h) (hh : 0 ≤ how ∧ how ≤ 2) :
    Calls Try.prog 39 #[.pointer (some ⟨g, 0, none⟩), .int .i64 how] W (RowOut18 how f w h (levs w h) W) := by
  obtain ⟨d1, d2, d3, d4⟩ := HG.dims
  have hL := levs_bd d1 d2 d3 d4
  obtain ⟨L, hLe⟩ : ∃ L, levs w h = L := ⟨_, rfl⟩
  have HL := Lib.hid hLe
  rw [hLe] at hL ⊢
  have HMAY := Lib.hid hmay
  have HH := Lib.hid hh
  clear hLe hmay
  have hmx : imax (L : Int) 1 = (L : Int) := by unfold imax; split <;> omega
  go_enter Try.func39, Try.ntmps39
  go_wp2_with fail
  refine (grid_Size_ok g Fg w h f _ HG).mono ?_
  rintro e w2 ⟨rfl, hb⟩
  have HG2 := HG.below hb
  have hB := hb
  clear hb HG
  go_wp2_with fail
  refine (levels_ok w h _ d1 d2 d3 d4).mono ?_
  rw [HL.out]
  rintro e w3 ⟨rfl, hb⟩
  have HG3 := Lib.hid (HG2.below hb)
  replace hB := below_next hB hb
  clear hb HG2
  go_wp2_with fail
  try rw [hmx]
  go_loopg [8, 22] L (fun q v8 v22 wr => ∃ j : Nat, Hid (j + q = L) ∧ v22 = .int .i64 (j : Int) ∧ RowStep how f w h w3 j v8 wr)
  case atStart => exact ⟨0, Nat.zero_add _, rfl, fun _ => 0, fun _ _ => False, Lib.hid (by simpa [ptrs] using World.ownsRow_nil w3 w3.heap.size 30 1), Below.refl _ _, fun i hi => by omega⟩
  case round =>
    obtain ⟨j, hj, rfl, s, Fs, HO, hbr, HS⟩ := hrel
    cases gk with
    | zero =>
      have ej : j = L := hj.out
      have ht : decide (j < L) = false := decide_eq_false (by omega)
      have ht2 : decide ((j : Int) < (L : Int)) = false := decide_eq_false (by omega)
      subst ej
      obtain ⟨k9, cap9, cs9, hv9, hc1, hc2, hc3, hc4⟩ := own_row HO.out (by omega)
      subst hv9
      have HC3 := Lib.hid (And.intro hc3 hc4)
      clear hc3 hc4 HO
      go_wp2_with fail
      go_ret2
      exact ⟨k9, cap9, s, Fs, rfl, hc1, below_next hB hbr, fun i hi => ⟨(blk_cell HC3.out.1 i).trans (HC3.out.2 i _ (ptrs_get s hi)), (HS.out i hi).1⟩⟩
    | succ m =>
      have hjh : j < L := by have := hj.out; omega
      have ht : decide (j < L) = true := decide_eq_true hjh
      have ht2 : decide ((j : Int) < (L : Int)) = true := decide_eq_true (by omega)
      go_wp2_with fail
      refine (level_good how g Fg w h j f wr (HG3.out.below hbr) (by rw [HL.out]; exact hjh) HMAY.out HH.out).mono ?_
      rintro e w4 ⟨g2, F2, rfl, hb4, hF2, HG4⟩
      have HO4 := Lib.hid (own_below HO.out hb4)
      have hbr4 : Below w3.heap.size w3 w4 := hbr.trans (hb4.mono hbr.size)
      have hs4 := hbr4.size
      have HS4 : Hid (∀ i, i < j + 1 → GridAt w4 (if i = j then g2 else s i) ((fun i => if i = j then F2 else Fs i) i) (lw w i) (lw h i) (downF how f w h i) ∧ (∀ t, (fun i => if i = j then F2 else Fs i) i t → u8.ownBlock ≠ some t)) := by
        intro i hi
        dsimp only
        by_cases e : i = j
        · subst e
          rw [if_pos rfl, if_pos rfl]
          exact ⟨HG4, fun t ht e => by have := (HO.out.lt t e).2; have := hF2 t ht; omega⟩
        · rw [if_neg e, if_neg e]
          have := HS.out i (by omega)
          exact ⟨this.1.below hb4, this.2⟩
      clear hb4 hF2 HG4 HS HO hbr
      go_wp2_with (at_builtin; refine append_own w3.heap.size rfl (.tmp 35) (.tmp 37) 81 30 _ 1 8 rfl Try.underlying81 info_Pgrid rfl (by omega) _ _ _ [.pointer (some ⟨g2, 0, none⟩)] rfl _ rfl (by simp) rfl ?_ HO4.out (by omega) (by omega) (by omega) ?_)
      · intro t ht; simp at ht; subst ht; rfl
      · intro v1 w5 hown5 hM5 hblk5 hnn5
        have hbr5 : Below w3.heap.size w3 w5 := hbr4.trans (hM5.below hs4 (fun k hk => (HO4.out.lt k hk).1))
        have HS5 : Hid (∀ i, i < j + 1 → GridAt w5 (if i = j then g2 else s i) ((fun i => if i = j then F2 else Fs i) i) (lw w i) (lw h i) (downF how f w h i) ∧ (∀ t, (fun i => if i = j then F2 else Fs i) i t → v1.ownBlock ≠ some t)) := by
          intro i hi
          obtain ⟨hg, hn⟩ := HS4.out i hi
          refine ⟨hg.mod hM5 hn, fun t ht e => ?_⟩
          rcases hblk5 t e with z | z
          · exact hn t ht z
          · have := hg.lt t ht; omega
        have HO5 : Hid (w5.ownsRow w3.heap.size 30 1 v1 (j + 1) (ptrs (fun i => if i = j then g2 else s i) (j + 1))) := by
          show w5.ownsRow w3.heap.size 30 1 v1 (j + 1) (ptrs (fun i => if i = j then g2 else s i) (j + 1))
          rw [ptrs_succ]
          exact hown5
        clear hown5 hM5 hblk5 hnn5 HS4 HO4 hbr4
        go_wp2_with fail
        go_roundg m
        case measure => omega
        case rel => exact ⟨j + 1, by have := hj.out; exact (show j + 1 + m = L by omega), congrArg (Value.int .i64) (by push_cast; omega), _, _, HO5, hbr5, HS5⟩
end Go.Proofs.Ytgofkgmhpnkchaa
/- slices.Equal of whole numbers: a bool. -/
set_option linter.unusedVariables false
set_option linter.unusedSimpArgs false
namespace Go.Proofs.Ytgofkgmhpnkchaa
open Go.RowKit

/-- An answer, and what it means. -/
def Tells (p : Prop) (W : World) (e : Ending) (W' : World) : Prop := ∃ r : Bool, e = .returned (.bool r) ∧ (r = true ↔ p) ∧ Below W.heap.size W W'

set_option maxHeartbeats 2000000 in
theorem equal64_any (ad ad2 : Addr) (n n2 cap cap2 : Nat) (u u2 : Nat → Int) (W : World) (hn : n ≤ 1048576) (hn2 : n2 ≤ 1048576) (h1 : RowAt W ad n u) (h2 : RowAt W ad2 n2 u2) :
    Calls Try.prog 81 #[.slice (some ad) n cap, .slice (some ad2) n2 cap2] W (Tells (n = n2 ∧ ∀ i, i < n → u i = u2 i) W) := by
  have H1 := Lib.hid h1
  have H2 := Lib.hid h2
  clear h1 h2
  by_cases hl : n = n2
  rotate_left
  · have hb : ((n : Int) != (n2 : Int)) = true := by simp; omega
    go_enter Try.func81, Try.ntmps81
    go_wp2_with fail
    go_ret
    exact ⟨false, rfl, ⟨fun h => by (cases h), fun h => absurd h.1 hl⟩, Below.refl _ _⟩
  subst hl
  go_enter Try.func81, Try.ntmps81
  go_wp2_with fail
  go_loopg [13] n (fun q v13 wr => ∃ j : Nat, Hid (j + q = n) ∧ v13 = .int .i64 (j : Int) ∧ Hid (∀ i, i < j → u i = u2 i) ∧ Below W.heap.size W wr)
  case atStart => exact ⟨0, Nat.zero_add _, rfl, fun i hi => by omega, Below.refl _ _⟩
  case round =>
    obtain ⟨j, hj, rfl, hall, hb⟩ := hrel
    cases gk with
    | zero =>
      have ht : decide (j < n) = false := decide_eq_false (by have := hj.out; omega)
      have ht2 : decide ((j : Int) < (n : Int)) = false := decide_eq_false (by have := hj.out; omega)
      go_wp2_with fail
      go_ret
      have ej : j = n := hj.out
      exact ⟨true, rfl, ⟨fun _ => ⟨by trivial, fun i hi => hall.out i (by omega)⟩, fun _ => rfl⟩, hb⟩
    | succ m =>
      have hlt : j < n := by have := hj.out; omega
      have ht : decide (j < n) = true := decide_eq_true hlt
      have ht2 : decide ((j : Int) < (n : Int)) = true := decide_eq_true (by omega)
      have hji : (j : Int) < (n : Int) := by omega
      have c1 := (H1.out.below hb) j hlt
      have c2 := (H2.out.below hb) j hlt
      have q1 := fun d os => cell_regrown c1 d os
      have q2 := fun d os => cell_regrown c2 d os
      by_cases he : u j = u2 j
      · have hbe : (u j != u2 j) = false := by simp [he]
        have HE := Lib.hid he
        clear he
        go_wp2_with fail
        refine wp_quiet (by kernel_rfl) (by kernel_rfl) ?_
        repeat (go_big_quiet_step ((first | fail)))
        refine wpQuiet_nil ?_
        intro w3 hb3
        clear q1 q2 c1 c2
        go_wp2_with fail
        go_roundg m
        case measure => omega
        case rel =>
          refine ⟨j + 1, by have := hj.out; exact (show j + 1 + m = n by omega), by first | rfl | (exact congrArg (Value.int .i64) (by push_cast; omega)), fun i hi => ?_, below_next hb hb3⟩
          by_cases e : i = j
          · subst e; exact HE.out
          · exact hall.out i (by omega)
      · have hbe : (u j != u2 j) = true := by simp [he]
        have HE := Lib.hid he
        clear he
        go_wp2_with fail
        refine wp_quiet (by kernel_rfl) (by kernel_rfl) ?_
        repeat (go_big_quiet_step ((first | fail)))
        refine wpQuiet_nil ?_
        intro w3 hb3
        clear q1 q2 c1 c2
        go_wp2_with fail
        go_ret
        exact ⟨false, rfl, ⟨fun h => by (cases h), fun h => absurd (h.2 j hlt) HE.out⟩, below_next hb hb3⟩
end Go.Proofs.Ytgofkgmhpnkchaa
/- slab.Cells: all values, row by row. -/
set_option linter.unusedVariables false
set_option linter.unusedSimpArgs false
namespace Go.Proofs.Ytgofkgmhpnkchaa
open Go.RowKit

set_option maxHeartbeats 2000000 in
set_option maxRecDepth 100000 in
theorem slab_Cells_ok (b : Nat) (F : Nat → Prop) (w h : Int) (f : Int → Int → Int) (W : World) (H : SlabAt W b F w h f) :
    Calls Try.prog 82 #[.pointer (some ⟨b, 0, none⟩)] W (RowOut W (w * h).toNat (fun i => f ((i : Int) % w) ((i : Int) / w))) := by
  obtain ⟨c, hb, hl⟩ := H.blk
  have w1 := H.w1
  have w2 := H.w2
  have h1 := H.h1
  have h2 := H.h2
  have hm := mul_bd (A := 16) (B := 16) (show 0 ≤ w by omega) w2 (show 0 ≤ h by omega) h2
  obtain ⟨n, hn⟩ : ∃ n : Nat, (n : Int) = w * h := ⟨(w * h).toNat, by omega⟩
  have hn2 : n ≤ 256 := by omega
  have e1 : (w * h).toNat = n := by omega
  rw [e1]
  have hw : wrap64 (w * h) = (n : Int) := by rw [hn]; exact wrap64_id (by omega) (by omega)
  have hw2 : IntKind.i64.wrap (w * h) = (n : Int) := by rw [hn]; exact IntWalk.i64_in _ (by omega)
  have Hn := Lib.hid hn
  clear e1 hn
  rcases hl with ⟨v, rfl, hv1, hv2, hv⟩ | ⟨k, n2, cap, cs, rfl, hF, hlt2, hn2', hcap, hk, hcs⟩
  · have HV := Lib.hid hv
    clear hv
    have wv : wrap64 v = v := wrap64_id (by omega) (by omega)
    go_enter Try.func82, Try.ntmps82
    go_wp2_with fail
    have k_0 := cells_q hb 0 rfl
    have k_1 := cells_q hb 1 rfl
    have k_2 := cells_q hb 2 rfl
    refine wp_tail 9 (by kernel_rfl) (by kernel_rfl) ?_
    simp only [List.take_succ_cons, List.take_zero, List.drop_succ_cons, List.drop_zero]
    repeat (go_big_quiet_step ((first | fail)))
    refine wpQuiet_nil ?_
    intro w3 hb2
    clear k_0 k_1 k_2
    have n0 := below_blk hb2 hb
    go_wp2_with (at_make; refine make_one rfl (.tmp 15) (.tmp 15) 22 rfl 2 _ 8 Try.underlying22 info_int64 rfl n rfl rfl (by omega) (by omega) ?_)
    have hm0 := blk_new w3 (.cells (Array.replicate n (.int .i64 0)) 2)
    go_loopg [19] n (fun q v19 wr => ∃ m : Nat, Hid (m + q = n) ∧ v19 = .int .i64 (m : Int) ∧ Below w3.heap.size w3 wr ∧ ∃ cs, Hid (wr.heap[w3.heap.size]? = some (.cells cs 2 (0, 0)) ∧ cs.size = n ∧ ∀ i, i < m → cs[i]? = some (.int .i64 (f ((i : Int) % w) ((i : Int) / w)))))
    case atStart => exact ⟨0, Nat.zero_add _, rfl, below_alloc1 _ _, _, hm0, by simp, fun i hi => by omega⟩
    case round =>
      clear hm0
      obtain ⟨m, hm2, rfl, hB, cs2, hcs2⟩ := hrel
      have n1 := below_blk hB n0
      cases gk with
      | zero =>
        have ht : decide (m < n) = false := decide_eq_false (by have := hm2.out; omega)
        go_wp2_with fail
        go_ret
        have e : m = n := hm2.out
        subst e
        exact ⟨_, rfl, hb2.size, below_next hb2 hB, cs2, hcs2.out.1, hcs2.out.2.1, hcs2.out.2.2⟩
      | succ q =>
        have hlt : m < n := by have := hm2.out; omega
        have ht : decide (m < n) = true := decide_eq_true hlt
        have hd := lin_at2 (w := w) (h := h) (i := m) (by omega) (by have := Hn.out; omega)
        have hcm : (wr.cell? ⟨w3.heap.size, m, none⟩).isSome = true := by
          rw [blk_cell hcs2.out.1]
          have := hcs2.out.2.1
          simp [hlt, this]
        obtain ⟨old, hold⟩ := Option.isSome_iff_exists.1 hcm
        clear hcm
        have hfz := blk_frozen hcs2.out.1 m
        have hmn : (m : Int) < (n : Int) := by omega
        have s_0 := cells_w n1 0 rfl
        have s_1 := cells_w n1 1 rfl
        have s_2 := cells_w n1 2 rfl
        have hfm := HV.out _ _ hd.1 hd.2.1 hd.2.2.1 hd.2.2.2
        have Hd := Lib.hid hd
        clear hd
        go_wp2_with (go_at_call 137; refine (flat_at _ _ _).mono ?_; rintro e w' ⟨rfl, rfl⟩)
        go_roundg q
        case measure => omega
        case rel =>
          refine ⟨m + 1, (by have := hm2.out; exact (show m + 1 + q = n by omega)), by first | rfl | exact congrArg (Value.int .i64) (by omega), hB.setCell (Nat.le_refl _) _, _, blk_set hcs2.out.1 m _, by simpa using hcs2.out.2.1, ?_⟩
          intro i hi
          rw [Array.getElem?_setIfInBounds]
          by_cases he : m = i
          · subst he
            rw [if_pos rfl, if_pos (by have := hcs2.out.2.1; omega)]
            first | rfl | rw [hfm]
          · rw [if_neg he]
            exact hcs2.out.2.2 i (by omega)
  · have HC := Lib.hid hcs
    clear hcs
    have hne : n = n2 := by have := Hn.out; omega
    subst hne
    clear hn2'
    have hkW := blk_lt hk
    go_enter Try.func82, Try.ntmps82
    go_wp2_with fail
    have k_0 := cells_q hb 0 rfl
    have k_1 := cells_q hb 1 rfl
    have k_2 := cells_q hb 2 rfl
    refine wp_tail 9 (by kernel_rfl) (by kernel_rfl) ?_
    simp only [List.take_succ_cons, List.take_zero, List.drop_succ_cons, List.drop_zero]
    repeat (go_big_quiet_step ((first | fail)))
    refine wpQuiet_nil ?_
    intro w3 hb2
    clear k_0 k_1 k_2
    have n0 := below_blk hb2 hb
    go_wp2_with (at_make; refine make_one rfl (.tmp 15) (.tmp 15) 22 rfl 2 _ 8 Try.underlying22 info_int64 rfl n rfl rfl (by omega) (by omega) ?_)
    have hm0 := blk_new w3 (.cells (Array.replicate n (.int .i64 0)) 2)
    go_loopg [19] n (fun q v19 wr => ∃ m : Nat, Hid (m + q = n) ∧ v19 = .int .i64 (m : Int) ∧ Below w3.heap.size w3 wr ∧ ∃ cs, Hid (wr.heap[w3.heap.size]? = some (.cells cs 2 (0, 0)) ∧ cs.size = n ∧ ∀ i, i < m → cs[i]? = some (.int .i64 (f ((i : Int) % w) ((i : Int) / w)))))
    case atStart => exact ⟨0, Nat.zero_add _, rfl, below_alloc1 _ _, _, hm0, by simp, fun i hi => by omega⟩
    case round =>
      clear hm0
      obtain ⟨m, hm2, rfl, hB, cs2, hcs2⟩ := hrel
      have n1 := below_blk hB n0
      cases gk with
      | zero =>
        have ht : decide (m < n) = false := decide_eq_false (by have := hm2.out; omega)
        go_wp2_with fail
        go_ret
        have e : m = n := hm2.out
        subst e
        exact ⟨_, rfl, hb2.size, below_next hb2 hB, cs2, hcs2.out.1, hcs2.out.2.1, hcs2.out.2.2⟩
      | succ q =>
        have hlt : m < n := by have := hm2.out; omega
        have ht : decide (m < n) = true := decide_eq_true hlt
        have hd := lin_at2 (w := w) (h := h) (i := m) (by omega) (by have := Hn.out; omega)
        have hcm : (wr.cell? ⟨w3.heap.size, m, none⟩).isSome = true := by
          rw [blk_cell hcs2.out.1]
          have := hcs2.out.2.1
          simp [hlt, this]
        obtain ⟨old, hold⟩ := Option.isSome_iff_exists.1 hcm
        clear hcm
        have hfz := blk_frozen hcs2.out.1 m
        have hmn : (m : Int) < (n : Int) := by omega
        have s_0 := cells_w n1 0 rfl
        have s_1 := cells_w n1 1 rfl
        have s_2 := cells_w n1 2 rfl
        have hd2 := lin_at (w := w) (h := h) (i := m) (by omega) (by have := Hn.out; omega)
        have hci := HC.out _ _ hd.1 hd.2.1 hd.2.2.1 hd.2.2.2
        rw [hd2.2.2.2.2, Int.toNat_natCast] at hci
        have hck := (blk_cell (below_blk hB (below_blk hb2 hk)) m).trans hci
        have hbd := H.bd _ _ hd.1 hd.2.1 hd.2.2.1 hd.2.2.2
        obtain ⟨z, hz⟩ : ∃ z, f ((m : Int) % w) ((m : Int) / w) = z := ⟨_, rfl⟩
        rw [hz] at hck hbd
        have wz : wrap64 z = z := wrap64_id (by omega) (by omega)
        have hfm := Lib.hid hz
        clear hz hci hd hd2
        go_wp2_with (go_at_call 138; refine (rough_at k n cap (m : Int) z _ (by omega) (by omega) (by omega) hck).mono ?_; rintro e w' ⟨rfl, rfl⟩)
        go_roundg q
        case measure => omega
        case rel =>
          refine ⟨m + 1, (by have := hm2.out; exact (show m + 1 + q = n by omega)), by first | rfl | exact congrArg (Value.int .i64) (by omega), hB.setCell (Nat.le_refl _) _, _, blk_set hcs2.out.1 m _, by simpa using hcs2.out.2.1, ?_⟩
          intro i hi
          rw [Array.getElem?_setIfInBounds]
          by_cases he : m = i
          · subst he
            rw [if_pos rfl, if_pos (by have := hcs2.out.2.1; omega)]
            rw [hfm.out]
          · rw [if_neg he]
            exact hcs2.out.2.2 i (by omega)
end Go.Proofs.Ytgofkgmhpnkchaa
/- grid.Same's pair of slabs, and its list. -/
set_option linter.unusedVariables false
set_option linter.unusedSimpArgs false
namespace Go.Proofs.Ytgofkgmhpnkchaa
open Go.RowKit

set_option maxHeartbeats 2000000 in
theorem slab_twin_any (b1 b2 : Nat) (F1 F2 : Nat → Prop) (w h : Int) (f f' : Int → Int → Int) (W : World) (w2 : w ≤ 16) (h2 : h ≤ 16) (H1 : SlabAt W b1 F1 w h f) (H2 : SlabAt W b2 F2 w h f') :
    Calls Try.prog 80 #[.pointer (some ⟨b1, 0, none⟩), .pointer (some ⟨b2, 0, none⟩)] W (Tells (∀ x y, 0 ≤ x → x < w → 0 ≤ y → y < h → f x y = f' x y) W) := by
  have w1 := H1.w1
  have h1 := H1.h1
  have hm := mul_bd (a := w) (b := h) (A := 16) (B := 16) (by omega) w2 (by omega) h2
  go_enter Try.func80, Try.ntmps80
  go_wp2_with fail
  refine (slab_Cells_ok b1 F1 w h f W H1).mono ?_
  rintro e w2' ⟨k1, rfl, hk1, hb, cs1, hrow1, _, hcs1⟩
  have H2' := H2.below hb
  have hB := hb
  have HR1 := Lib.hid (RowAt.of_blk hrow1 hcs1)
  clear hb hrow1 hcs1 H1 H2
  go_wp2_with fail
  refine (slab_Cells_ok b2 F2 w h f' w2' H2').mono ?_
  rintro e w3' ⟨k2, rfl, hk2, hb, cs2, hrow2, _, hcs2⟩
  have HR2 := Lib.hid (RowAt.of_blk hrow2 hcs2)
  have HR1' := Lib.hid (HR1.out.below hb)
  have hB3 := below_next hB hb
  obtain ⟨N, hN⟩ : ∃ N, (w * h).toNat = N := ⟨_, rfl⟩
  rw [hN] at HR1' HR2 ⊢
  have hNb : N ≤ 1048576 := by omega
  have HN := Lib.hid hN
  clear hb hrow2 hcs2 H2' hB HR1 hN
  go_wp2_with fail
  refine (equal64_any ⟨k1, 0, none⟩ ⟨k2, 0, none⟩ N N N N _ _ w3' hNb hNb HR1'.out HR2.out).mono ?_
  rintro e w4' ⟨r, rfl, hr, hb⟩
  go_wp2_with fail
  go_ret
  refine ⟨r, rfl, hr.trans ⟨fun hh x y a1 a2 a3 a4 => ?_, fun hh => ⟨by trivial, fun i hi => ?_⟩⟩, below_next hB3 hb⟩
  · have hi := idx_lt a1 a2 a3 a4
    have h9 := hh.2 (y * w + x).toNat (by have := HN.out; omega)
    have e1 := lin_idx (g := f) a1 a2 a3
    have e2 := lin_idx (g := f') a1 a2 a3
    unfold lin at e1 e2
    rw [← e1, ← e2]
    exact h9
  · have hl := lin_at (w := w) (h := h) (i := i) (by omega) (by have := HN.out; omega)
    exact hh _ _ hl.1 hl.2.1 hl.2.2.1 hl.2.2.2.1

/-- Two lists of slabs. -/
def SlabsAt (W : World) (A1 A2 n : Nat) (sw sh : Nat → Int) (f f' : Nat → Int → Int → Int) : Prop :=
  ∀ i, i < n → sw i ≤ 16 ∧ sh i ≤ 16 ∧ ∃ (b1 b2 : Nat) (F1 F2 : Nat → Prop), W.cell? ⟨A1, i, none⟩ = some (.pointer (some ⟨b1, 0, none⟩)) ∧ W.cell? ⟨A2, i, none⟩ = some (.pointer (some ⟨b2, 0, none⟩)) ∧ SlabAt W b1 F1 (sw i) (sh i) (f i) ∧ SlabAt W b2 F2 (sw i) (sh i) (f' i)
theorem SlabsAt.below {W W' : World} {A1 A2 n : Nat} {sw sh : Nat → Int} {f f' : Nat → Int → Int → Int} (H : SlabsAt W A1 A2 n sw sh f f') (hb : Below W.heap.size W W') : SlabsAt W' A1 A2 n sw sh f f' := fun i hi => by
  obtain ⟨h1, h2, b1, b2, F1, F2, h3, h4, h5, h6⟩ := H i hi
  exact ⟨h1, h2, b1, b2, F1, F2, below_cell hb h3, below_cell hb h4, h5.below hb, h6.below hb⟩

set_option maxHeartbeats 2000000 in
theorem equal_slabs_any (A1 A2 n cap cap2 : Nat) (sw sh : Nat → Int) (f f' : Nat → Int → Int → Int) (W : World) (hn : n ≤ 1048576) (H : SlabsAt W A1 A2 n sw sh f f') :
    Calls Try.prog 79 #[.slice (some ⟨A1, 0, none⟩) n cap, .slice (some ⟨A2, 0, none⟩) n cap2, .func (.func 80) #[] #[]] W
      (Tells (∀ i, i < n → ∀ x y, 0 ≤ x → x < sw i → 0 ≤ y → y < sh i → f i x y = f' i x y) W) := by
  have HT := Lib.hid H
  clear H
  go_enter Try.func79, Try.ntmps79
  go_wp2_with fail
  go_loopg [17] n (fun q v17 wr => ∃ j : Nat, Hid (j + q = n) ∧ v17 = .int .i64 (j : Int) ∧ Hid (∀ i, i < j → ∀ x y, 0 ≤ x → x < sw i → 0 ≤ y → y < sh i → f i x y = f' i x y) ∧ Below W.heap.size W wr)
  case atStart => exact ⟨0, Nat.zero_add _, rfl, fun i hi => by omega, Below.refl _ _⟩
  case round =>
    obtain ⟨j, hj, rfl, hall, hb⟩ := hrel
    cases gk with
    | zero =>
      have ht : decide (j < n) = false := decide_eq_false (by have := hj.out; omega)
      have ht2 : decide ((j : Int) < (n : Int)) = false := decide_eq_false (by have := hj.out; omega)
      go_wp2_with fail
      go_ret
      have ej : j = n := hj.out
      exact ⟨true, rfl, ⟨fun _ i hi => hall.out i (by omega), fun _ => rfl⟩, hb⟩
    | succ m =>
      have hlt : j < n := by have := hj.out; omega
      have ht : decide (j < n) = true := decide_eq_true hlt
      have ht2 : decide ((j : Int) < (n : Int)) = true := decide_eq_true (by omega)
      have hji : (j : Int) < (n : Int) := by omega
      obtain ⟨g1, g2, b1, b2, F1, F2, h3, h4, h5, h6⟩ := (HT.out.below hb) j hlt
      have HS := Lib.hid (And.intro h5 h6)
      clear h5 h6
      go_wp2_with fail
      refine (slab_twin_any b1 b2 F1 F2 (sw j) (sh j) (f j) (f' j) wr g1 g2 HS.out.1 HS.out.2).mono ?_
      rintro e w2 ⟨r, rfl, hr, hb2⟩
      have hb3 := below_next hb hb2
      have HRR := Lib.hid hr
      clear h3 h4 hb2 hr
      cases r with
      | true =>
        go_wp2_with fail
        go_roundg m
        case measure => omega
        case rel =>
          refine ⟨j + 1, by have := hj.out; exact (show j + 1 + m = n by omega), by first | rfl | (exact congrArg (Value.int .i64) (by push_cast; omega)), fun i hi => ?_, hb3⟩
          by_cases e : i = j
          · subst e; exact HRR.out.1 (by trivial)
          · exact hall.out i (by omega)
      | false =>
        go_wp2_with fail
        go_ret
        exact ⟨false, rfl, ⟨fun h => by (cases h), fun h => absurd (HRR.out.2 (h j hlt)) (by decide)⟩, hb3⟩
end Go.Proofs.Ytgofkgmhpnkchaa
/- grid.Same: a bool, and what it means. -/
set_option linter.unusedVariables false
set_option linter.unusedSimpArgs false
namespace Go.Proofs.Ytgofkgmhpnkchaa
open Go.RowKit

set_option maxHeartbeats 2000000 in
set_option maxRecDepth 100000 in
theorem grid_same_any (g1 g2 : Nat) (F1 F2 : Nat → Prop) (w h x y : Int) (f f' : Int → Int → Int) (W : World) (H1 : GridAt W g1 F1 w h f) (H2 : GridAt W g2 F2 x y f') :
    Calls Try.prog 35 #[.pointer (some ⟨g1, 0, none⟩), .pointer (some ⟨g2, 0, none⟩)] W (Tells (w = x ∧ h = y ∧ ∀ X Y, 0 ≤ X → X < w → 0 ≤ Y → Y < h → f X Y = f' X Y) W) := by
  obtain ⟨A1, n1, cap1, ps1, s1, Fs1, R1⟩ := H1
  obtain ⟨A2, n2, cap2, ps2, s2, Fs2, R2⟩ := H2
  have hd1 := R1.grid
  have hd2 := R2.grid
  have a_0 := cells_q hd1 0 rfl
  have a_1 := cells_q hd1 1 rfl
  have a_2 := cells_q hd1 2 rfl
  have a_3 := cells_q hd1 3 rfl
  have b_0 := cells_q hd2 0 rfl
  have b_1 := cells_q hd2 1 rfl
  have b_2 := cells_q hd2 2 rfl
  have b_3 := cells_q hd2 3 rfl
  by_cases hw : w = x
  rotate_left
  · have hwb : (w == x) = false := by simp [hw]
    have HW := Lib.hid hw
    clear hw R1 R2
    go_enter Try.func35, Try.ntmps35
    go_wp2_with fail
    refine wp_quiet (by kernel_rfl) (by kernel_rfl) ?_
    repeat (go_big_quiet_step ((first | fail)))
    refine wpQuiet_nil ?_
    intro W2 hb2
    go_wp2_with fail
    go_ret
    exact ⟨false, rfl, ⟨fun hh => by (cases hh), fun hh => absurd hh.1 HW.out⟩, hb2⟩
  by_cases hh : h = y
  rotate_left
  · have hwb : (w == x) = true := by simp [hw]
    have hhb : (h == y) = false := by simp [hh]
    have HW := Lib.hid hh
    clear hh hw R1 R2
    go_enter Try.func35, Try.ntmps35
    go_wp2_with fail
    refine wp_quiet (by kernel_rfl) (by kernel_rfl) ?_
    repeat (go_big_quiet_step ((first | fail)))
    refine wpQuiet_nil ?_
    intro W2 hb2
    go_wp2_with fail
    go_ret
    exact ⟨false, rfl, ⟨fun hh => by (cases hh), fun hh => absurd hh.2.1 HW.out⟩, hb2⟩
  subst hw hh
  have hn : n1 = n2 := by rw [R1.n_eq, R2.n_eq]
  subst hn
  have bw := acr_bd R1.w1 R1.w2
  have bh := acr_bd R1.h1 R1.h2
  have hnb : n1 ≤ 1048576 := by have := Nat.mul_le_mul bw.2 bh.2; have := R1.n_eq; omega
  have hS : SlabsAt W A1 A2 n1 (fun i => side w (i % acr w)) (fun i => side h (i / acr w)) (fun i => tileF f w i) (fun i => tileF f' w i) := fun i hi => by
    have hi2 : i < acr w * acr h := by rw [← R1.n_eq]; exact hi
    have q1 := side_bd R1.w1 (Nat.mod_lt i (by omega : 0 < acr w))
    have q2 := side_bd R1.h1 (Nat.div_lt_of_lt_mul hi2 : i / acr w < acr h)
    exact ⟨q1.2, q2.2, s1 i, s2 i, Fs1 i, Fs2 i, cells_w R1.row _ (R1.ptr i hi), cells_w R2.row _ (R2.ptr i hi), R1.slab i hi, R2.slab i hi⟩
  have HS := Lib.hid hS
  have hiff : (∀ i, i < n1 → ∀ X Y, 0 ≤ X → X < side w (i % acr w) → 0 ≤ Y → Y < side h (i / acr w) → tileF f w i X Y = tileF f' w i X Y) ↔ (∀ X Y, 0 ≤ X → X < w → 0 ≤ Y → Y < h → f X Y = f' X Y) := by
    constructor
    · intro hall X Y b1 b2 b3 b4
      obtain ⟨t, _, t2, _, _, t5, t6, t7⟩ := tile_of (f := f) (x := X) (y := Y) R1.w1 R1.h1 b1 b2 b3 b4
      have h8 := hall t (by rw [R1.n_eq]; exact t2) (X % 16) (Y % 16) (by omega) t5 (by omega) t6
      obtain ⟨t', e0, _, _, _, _, _, t7'⟩ := tile_of (f := f') (x := X) (y := Y) R1.w1 R1.h1 b1 b2 b3 b4
      have et : t' = t := by omega
      rw [et] at t7'
      rw [← t7, ← t7']
      exact h8
    · intro hall i hi X Y b1 b2 b3 b4
      have hi2 : i < acr w * acr h := by rw [← R1.n_eq]; exact hi
      have e1 := acr_eq R1.w1
      have e2 := acr_eq R1.h1
      have q1 : i % acr w < acr w := Nat.mod_lt i (by omega)
      have q2 : i / acr w < acr h := Nat.div_lt_of_lt_mul hi2
      unfold tileF
      unfold side imin at b2 b4
      generalize i % acr w = p at *
      generalize i / acr w = q at *
      refine hall _ _ (by omega) ?_ (by omega) ?_
      · split at b2 <;> omega
      · split at b4 <;> omega
  have HI := Lib.hid hiff
  clear hS hiff R1 R2 bw bh hd1 hd2
  go_enter Try.func35, Try.ntmps35
  go_wp2_with fail
  refine wp_tail 29 (by kernel_rfl) (by kernel_rfl) ?_
  simp only [List.take_succ_cons, List.take_zero, List.drop_succ_cons, List.drop_zero]
  repeat (go_big_quiet_step ((first | fail)))
  refine wpQuiet_nil ?_
  intro W2 hb2
  clear a_0 a_1 a_2 a_3 b_0 b_1 b_2 b_3
  go_wp2_with fail
  refine (equal_slabs_any A1 A2 n1 cap1 cap2 _ _ _ _ W2 hnb (HS.out.below hb2)).mono ?_
  rintro e W3 ⟨r, rfl, hr, hb3⟩
  have HR := Lib.hid (hr.trans HI.out)
  clear hr
  go_wp2_with fail
  go_ret
  exact ⟨r, rfl, HR.out.trans ⟨fun hh => ⟨by trivial, by trivial, hh⟩, fun hh => hh.2.2⟩, below_next hb2 hb3⟩
end Go.Proofs.Ytgofkgmhpnkchaa

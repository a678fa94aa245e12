/- down.Level where there is none. -/
import Derived.Test.YtgofkgmhpnkchaaDownLevel
set_option linter.unusedVariables false
set_option linter.unusedSimpArgs false
namespace Go.Proofs.Ytgofkgmhpnkchaa
open Go.RowKit

theorem way_any (how : Int) (W : World) : Calls Try.prog 59 #[.int .i64 how] W fun e W' => (∃ v, e = .returned v) ∧ W = W' := by
  by_cases h : 0 ≤ how ∧ how ≤ 2
  · rcases (by omega : how = 0 ∨ how = 1 ∨ how = 2) with rfl | rfl | rfl
    · exact (way0_ok W).mono fun _ _ hh => ⟨⟨_, hh.1⟩, hh.2⟩
    · exact (way1_ok W).mono fun _ _ hh => ⟨⟨_, hh.1⟩, hh.2⟩
    · exact (way2_ok W).mono fun _ _ hh => ⟨⟨_, hh.1⟩, hh.2⟩
  · exact (way_none how W h).mono fun _ _ hh => ⟨⟨_, hh.1⟩, hh.2⟩
theorem nil_is_nil (w : World) : (binOp BinOp.eql 116 .nilFunc .nilFunc).run Try.prog w = .ok (.bool true) w := by
  have h : ∀ d : Nat, (Op.equalIn (d + 1) 116 .nilFunc .nilFunc).run Try.prog w = .ok true w := fun d => by
    simp [Op.equalIn, run_underlying Try.underlying116]
  have h2 : (Op.equal 116 .nilFunc .nilFunc).run Try.prog w = .ok true w := h _
  simp [binOp, h2, Sem.run_bind, Sem.run_pure]

set_option maxHeartbeats 2000000 in
theorem level_bad (how k : Int) (g : Nat) (Fg : Nat → Prop) (w h : Int) (f : Int → Int → Int) (W : World) (HG : GridAt W g Fg w h f) (hbad : ¬ (0 ≤ k ∧ k < (levs w h : Int) ∧ 0 ≤ how ∧ how ≤ 2)) :
    Calls Try.prog 24 #[.pointer (some ⟨g, 0, none⟩), .int .i64 k, .int .i64 how] W fun e W' => e = .returned (.tuple #[.pointer none, .int .i64 11]) ∧ Below W.heap.size W W' := by
  obtain ⟨d1, d2, d3, d4⟩ := HG.dims
  go_enter Try.func24, Try.ntmps24
  go_wp2_with fail
  refine (grid_Size_ok g Fg w h f _ HG).mono ?_
  rintro e w2 ⟨rfl, hb⟩
  have hB := hb
  clear hb HG
  go_wp2_with fail
  by_cases hk : 0 ≤ k ∧ k < (levs w h : Int)
  · obtain ⟨m, rfl⟩ : ∃ m : Nat, k = m := ⟨k.toNat, by omega⟩
    refine (tier_size_ok w h m _ d1 d2 d3 d4 (by omega)).mono ?_
    rintro e w3 ⟨rfl, hb⟩
    replace hB := below_next hB hb
    have hhow : ¬ (0 ≤ how ∧ how ≤ 2) := by omega
    clear hb hbad hk
    go_wp2_with fail
    refine (way_none how _ hhow).mono ?_
    rintro e w' ⟨rfl, rfl⟩
    have hnn := nil_is_nil w3
    clear hhow
    go_wp2_with fail
    go_ret2
    exact ⟨rfl, hB⟩
  · refine (tier_size_bad w h k _ d1 d2 d3 d4 hk).mono ?_
    rintro e w3 ⟨rfl, hb⟩
    replace hB := below_next hB hb
    clear hb hbad hk
    go_wp2_with fail
    refine (way_any how _).mono ?_
    rintro e w' ⟨⟨v, rfl⟩, rfl⟩
    go_wp2_with fail
    go_ret2
    exact ⟨rfl, hB⟩

set_option maxHeartbeats 2000000 in
theorem same04_ok (ad ad2 : Addr) (n cap cap2 : Nat) (u : Nat → Int) (W : World) (n2 : n ≤ 1048576) (h1 : RowAt W ad n u) (h2 : RowAt W ad2 n u) :
    Calls Try.prog 62 #[.slice (some ad) n cap, .slice (some ad2) n cap2] W fun e W' => e = .returned (.bool true) ∧ Below W.heap.size W W' := by
  have H1 := Lib.hid h1
  have H2 := Lib.hid h2
  clear h1 h2
  go_enter Try.func62, Try.ntmps62
  go_wp2_with fail
  go_loopg [5] n (fun q v5 wr => ∃ j : Nat, Hid (j + q = n) ∧ v5 = .int .i64 (j : Int) ∧ Below W.heap.size W wr)
  case atStart => exact ⟨0, Nat.zero_add _, rfl, Below.refl _ _⟩
  case round =>
    obtain ⟨j, hj, rfl, hb⟩ := hrel
    cases gk with
    | zero =>
      have ht : decide (j < n) = false := decide_eq_false (by have := hj.out; omega)
      have ht2 : decide ((j : Int) < (n : Int)) = false := decide_eq_false (by have := hj.out; omega)
      go_wp2_with fail
      go_ret
      exact ⟨rfl, hb⟩
    | succ m =>
      have hlt : j < n := by have := hj.out; omega
      have ht : decide (j < n) = true := decide_eq_true hlt
      have ht2 : decide ((j : Int) < (n : Int)) = true := decide_eq_true (by omega)
      have hji : (j : Int) < (n : Int) := by omega
      have c1 := (H1.out.below hb) j hlt
      have c2 := (H2.out.below hb) j hlt
      have q1 := fun d os => cell_regrown c1 d os
      have q2 := fun d os => cell_regrown c2 d os
      go_wp2_with fail
      refine wp_quiet (by kernel_rfl) (by kernel_rfl) ?_
      repeat (go_big_quiet_step ((first | fail)))
      refine wpQuiet_nil ?_
      intro w3 hb3
      clear q1 q2 c1 c2
      go_wp2_with fail
      go_roundg m
      case measure => omega
      case rel => exact ⟨j + 1, by have := hj.out; exact (show j + 1 + m = n by omega), by first | rfl | (exact congrArg (Value.int .i64) (by push_cast; omega)), below_next hb hb3⟩

set_option maxHeartbeats 2000000 in
set_option maxRecDepth 100000 in
theorem is09_ok (g : Nat) (Fg : Nat → Prop) (w h : Int) (f : Int → Int → Int) (ad : Addr) (n cap : Nat) (W : World) (HG : GridAt W g Fg w h f) (hn : (n : Int) = w * h) (hr : RowAt W ad n (lin f w)) :
    Calls Try.prog 26 #[.pointer (some ⟨g, 0, none⟩), .agg #[.int .i64 w, .int .i64 h, .slice (some ad) n cap]] W fun e W' => e = .returned (.bool true) ∧ Below W.heap.size W W' := by
  obtain ⟨d1, d2, d3, d4⟩ := HG.dims
  obtain ⟨wn, rfl⟩ : ∃ wn : Nat, w = wn := ⟨w.toNat, by omega⟩
  obtain ⟨hh, rfl⟩ : ∃ hh : Nat, h = hh := ⟨h.toNat, by omega⟩
  have en : wn * hh = n := by have : ((wn * hh : Nat) : Int) = wn * hh := by { push_cast; rfl }; omega
  have EN := Lib.hid en
  have hb' := Nat.mul_le_mul (show wn ≤ 1024 by omega) (show hh ≤ 1024 by omega)
  have hnb : n ≤ 1048576 := by omega
  clear en hb' hn
  go_enter Try.func26, Try.ntmps26
  go_wp2_with fail
  have n0 := blk_new W (.cells #[.int .i64 (wn : Int), .int .i64 (hh : Int), .slice (some ad) n cap] 27)
  have hB := below_alloc1 W (.cells #[.int .i64 (wn : Int), .int .i64 (hh : Int), .slice (some ad) n cap] 27)
  have HG1 := HG.below hB
  refine (grid_Size_ok g Fg wn hh f _ HG1).mono ?_
  rintro e w2 ⟨rfl, hb⟩
  replace n0 := below_blk hb n0
  replace HG1 := HG1.below hb
  replace hB := below_next hB hb
  clear hb HG
  go_wp2_with fail
  refine (grid_All_ok g Fg wn hh f _ HG1).mono ?_
  rintro e w3 ⟨rfl, hb⟩
  replace n0 := below_blk hb n0
  replace HG1 := HG1.below hb
  replace hB := below_next hB hb
  clear hb
  go_wp2_with fail
  have hval := grid_Values_ok g Fg wn hh 0 0 ((wn : Int) - 1) ((hh : Int) - 1) f w3 HG1 (by omega) (by omega) (by omega) (by omega) (by omega) (by omega) wn hh (by omega) (by omega)
  rw [EN.out] at hval
  refine hval.mono ?_
  rintro e w4 ⟨k4, cap4, cs4, rfl, hcap4, hk4, hb4, hrow4, hcs4⟩
  replace n0 := below_blk hb4 n0
  replace hB := below_next hB hb4
  have hr4 : RowAt w4 ⟨k4, 0, none⟩ n (lin f wn) := RowAt.of_blk hrow4 (fun i hi => by
    rw [hcs4 i hi]
    show some (Value.int .i64 (f (0 + ((i % wn : Nat) : Int)) (0 + ((i / wn : Nat) : Int)))) = some (Value.int .i64 (f ((i : Int) % wn) ((i : Int) / wn)))
    rw [Int.zero_add, Int.zero_add, Int.natCast_emod, Int.natCast_ediv])
  have hrn := hr.below hB
  have HR4 := Lib.hid hr4
  have HRN := Lib.hid hrn
  clear hcs4 hrow4 hb4 hk4 hcap4 hr hrn hr4 hval
  have i_0 := cells_w n0 0 rfl
  have i_1 := cells_w n0 1 rfl
  have i_2 := cells_w n0 2 rfl
  go_wp2_with fail
  refine (same04_ok ⟨k4, 0, none⟩ ad n cap4 cap (lin f wn) w4 hnb HR4.out HRN.out).mono ?_
  rintro e w5 ⟨rfl, hb⟩
  go_wp2_with fail
  go_ret
  exact ⟨rfl, below_next hB hb⟩
end Go.Proofs.Ytgofkgmhpnkchaa

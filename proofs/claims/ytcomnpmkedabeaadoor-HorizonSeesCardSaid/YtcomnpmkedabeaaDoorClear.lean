/- sight.Clear: does one see another one? -/
import Derived.Test.YtcomnpmkedabeaaDoorProfile
import Derived.BigRegion
set_option linter.unusedVariables false
set_option linter.unusedSimpArgs false
namespace Go.Proofs.YtcomnpmkedabeaaDoor
open Go.RowKit

section
variable {P : Program} {fn : Func} {p u v ty t g : Nat} {tmps cs : Array Value} {w : World} {fr : Nat × Nat}
theorem res_tct (h : fn.results = #[.tmp u, .cell p ty, .tmp v]) (hp : tmps.getD p undef = .pointer (some ⟨g, 0, none⟩)) (hg : w.heap[g]? = some (.cells cs t fr)) {m : Nat} (hS : AggTy P ty m) (hm : cs.size = m) :
    (results fn tmps).run P w = .ok (.tuple #[tmps.getD u undef, .agg cs, tmps.getD v undef]) w := by
  subst hm
  have hp' : tmps[p]?.getD undef = .pointer (some ⟨g, 0, none⟩) := by simpa using hp
  simp [results, h, hp', asAddr, hS.load hg]
end
/-- Does the i-th cell hide the last one? -/
def hidAt (V : Nat → Int) (ha hb : Int) (n i : Nat) : Bool := hidB (V i) (V 0 + ha) (V n + hb) (i : Int) (n : Int)
/-- Seen, or hidden by a first cell. -/
def ClearOut (V : Nat → Int) (X Y : Nat → Int) (ha hb : Int) (n : Nat) (W : World) (e : Ending) (W' : World) : Prop :=
  ∃ (r : Bool) (cx cy : Int), e = .returned (.tuple #[.bool r, .agg #[.int .i64 cx, .int .i64 cy], .int .i64 0]) ∧ Below W.heap.size W W' ∧
    (r = true ∧ (∀ i, 1 ≤ i → i < n → hidAt V ha hb n i = false) ∧ cx = 0 ∧ cy = 0 ∨ r = false ∧ ∃ i, 1 ≤ i ∧ i < n ∧ hidAt V ha hb n i = true ∧ (∀ j, 1 ≤ j → j < i → hidAt V ha hb n j = false) ∧ cx = X i ∧ cy = Y i)

set_option maxHeartbeats 4000000 in
set_option maxRecDepth 100000 in
theorem clear_ok (g : Nat) (F : Nat → Prop) (w h ax ay bx by' ha hb : Int) (n : Nat) (f : Int → Int → Int) (W : World) (HG : GridAt W g F w h f) (hmay : ∀ x y, inG w h x y → -2147483648 ≤ f x y ∧ f x y ≤ 2147483647) (hia : inG w h ax ay) (hib : inG w h bx by') (hn : (n : Int) = rN ax ay bx by')
    (a1 : 0 ≤ ha) (a2 : ha ≤ 1048576) (b1 : 0 ≤ hb) (b2 : hb ≤ 1048576) :
    Calls Tryd.prog 14 #[.pointer (some ⟨g, 0, none⟩), .agg #[.int .i64 ax, .int .i64 ay], .int .i64 ha, .agg #[.int .i64 bx, .int .i64 by'], .int .i64 hb] W
      (ClearOut (rayV f w h ax ay bx by') (fun i => rX ax ay bx by' (i : Int)) (fun i => rY ax ay bx by' (i : Int)) ha hb n W) := by
  obtain ⟨d1, d2, d3, d4⟩ := HG.dims
  have HCN : Cans ax ay bx by' := ⟨hia.1, by have := hia.2.1; omega, hia.2.2.1, by have := hia.2.2.2; omega, hib.1, by have := hib.2.1; omega, hib.2.2.1, by have := hib.2.2.2; omega⟩
  have hnb := (r_bd HCN).2.2
  rw [← hn] at hnb
  have hprof := fun W HG => profile_ok g F w h ax ay bx by' n f W HG hia hib hn
  unfold ProfOut at hprof
  have hVb : ∀ i, -2147483648 ≤ rayV f w h ax ay bx by' i ∧ rayV f w h ax ay bx by' i ≤ 2147483647 := fun i => by
    unfold rayV atV
    split
    · rename_i hin; exact hmay _ _ hin
    · omega
  have hat := fun (i : Nat) (W : World) (h1 : i < n) => ray_at_ok ax ay bx by' (i : Int) W HCN (by omega) (by omega) (by omega)
  obtain ⟨V, hV⟩ : ∃ V, rayV f w h ax ay bx by' = V := ⟨_, rfl⟩
  rw [hV] at hprof hVb ⊢
  have HPROF := Lib.hid hprof
  have HVB := Lib.hid hVb
  have HAT := Lib.hid hat
  clear hprof hVb hat hV hia hib hn HCN hmay
  go_enter Tryd.func14, Tryd.ntmps14
  go_wp2_with fail
  have n_B := (below_alloc (below_alloc (below_alloc1 W (.cells #[.int .i64 ax, .int .i64 ay] 24)) (.cells #[.int .i64 bx, .int .i64 by'] 24)) (.cells #[.int .i64 0, .int .i64 0] 24))
  have n_0 : (((W.alloc (.cells #[.int .i64 ax, .int .i64 ay] 24)).alloc (.cells #[.int .i64 bx, .int .i64 by'] 24)).alloc (.cells #[.int .i64 0, .int .i64 0] 24)).heap[W.heap.size]? = some (.cells #[.int .i64 ax, .int .i64 ay] 24) := below_blk (below_alloc (below_alloc1 (W.alloc (.cells #[.int .i64 ax, .int .i64 ay] 24)) (.cells #[.int .i64 bx, .int .i64 by'] 24)) (.cells #[.int .i64 0, .int .i64 0] 24)) (blk_new_at (W := W) (o := .cells #[.int .i64 ax, .int .i64 ay] 24) (by simp))
  have n_1 : (((W.alloc (.cells #[.int .i64 ax, .int .i64 ay] 24)).alloc (.cells #[.int .i64 bx, .int .i64 by'] 24)).alloc (.cells #[.int .i64 0, .int .i64 0] 24)).heap[W.heap.size + 1]? = some (.cells #[.int .i64 bx, .int .i64 by'] 24) := below_blk (below_alloc1 ((W.alloc (.cells #[.int .i64 ax, .int .i64 ay] 24)).alloc (.cells #[.int .i64 bx, .int .i64 by'] 24)) (.cells #[.int .i64 0, .int .i64 0] 24)) (blk_new_at (W := (W.alloc (.cells #[.int .i64 ax, .int .i64 ay] 24))) (o := .cells #[.int .i64 bx, .int .i64 by'] 24) (by simp))
  have n_2 : (((W.alloc (.cells #[.int .i64 ax, .int .i64 ay] 24)).alloc (.cells #[.int .i64 bx, .int .i64 by'] 24)).alloc (.cells #[.int .i64 0, .int .i64 0] 24)).heap[W.heap.size + 1 + 1]? = some (.cells #[.int .i64 0, .int .i64 0] 24) := (blk_new_at (W := ((W.alloc (.cells #[.int .i64 ax, .int .i64 ay] 24)).alloc (.cells #[.int .i64 bx, .int .i64 by'] 24))) (o := .cells #[.int .i64 0, .int .i64 0] 24) (by simp))
  obtain ⟨w1, hw1⟩ : ∃ w1, (((W.alloc (.cells #[.int .i64 ax, .int .i64 ay] 24)).alloc (.cells #[.int .i64 bx, .int .i64 by'] 24)).alloc (.cells #[.int .i64 0, .int .i64 0] 24)) = w1 := ⟨_, rfl⟩
  rw [hw1] at n_0 n_1 n_2 n_B ⊢
  clear hw1
  refine (HPROF.out _ (HG.below n_B)).mono ?_
  rintro e w2 ⟨k, rfl, hb2, hrow⟩
  replace n_0 := below_blk hb2 n_0
  replace n_1 := below_blk hb2 n_1
  replace n_2 := below_blk hb2 n_2
  replace n_B := below_next n_B hb2
  have HROW := Lib.hid hrow
  clear hb2 hrow HG HPROF
  have wn : wrap64 (((n + 1 : Nat) : Int) - 1) = (n : Int) := by rw [wrap64_id (by omega) (by omega)]; omega
  have wn2 : wrap64 ((n : Int) + 1 - 1) = (n : Int) := by rw [wrap64_id (by omega) (by omega)]; omega
  go_wp2_with (go_at_call 25; refine (sight_may_ok _ _ (by assumption) (by assumption)).mono ?_; rintro e w' ⟨rfl, rfl⟩)
  go_loopg [16] (n - 1) (fun q v16 wr => ∃ j : Nat, Hid (j + q = n - 1) ∧ v16 = .int .i64 ((j : Int) + 1) ∧ Hid (∀ i, 1 ≤ i → i < j + 1 → hidAt V ha hb n i = false) ∧ Below w2.heap.size w2 wr)
  case atStart => exact ⟨0, Nat.zero_add _, rfl, fun i h1 h2 => by omega, Below.refl _ _⟩
  case round =>
    obtain ⟨j, hj, rfl, hall, hbr⟩ := hrel
    have n2r := below_blk hbr n_2
    cases gk with
    | zero =>
      have hj2 : j = n - 1 := hj.out
      have ht : decide ((j : Int) + 1 < (n : Int)) = false := decide_eq_false (by omega)
      have hBr := below_next n_B hbr
      have i_0 := cells_w n2r 0 rfl
      have i_1 := cells_w n2r 1 rfl
      have z_0 := blk_frozen n2r 0
      have z_1 := blk_frozen n2r 1
      go_wp2_with fail
      refine bodyPost_ret (res_tct rfl rfl (blk_set (blk_set n2r 0 _) 1 _) agg_Cell rfl) rfl ?_
      exact ⟨true, 0, 0, rfl, (hBr.setCell (by first | (simp; done) | (simp; omega)) _).setCell (by first | (simp; done) | (simp; omega)) _, .inl ⟨rfl, fun i h1 h2 => hall.out i h1 (by omega), rfl, rfl⟩⟩
    | succ m =>
      have hjn : j + 1 < n := by have := hj.out; omega
      have ht : decide ((j : Int) + 1 < (n : Int)) = true := decide_eq_true (by omega)
      have c0 := below_cell hbr (HROW.out 0 (by omega))
      have c1 := below_cell hbr (HROW.out (j + 1) (by omega))
      have c2 := below_cell hbr (HROW.out n (by omega))
      have q0 := fun d os => cell_regrown c0 d os
      have q1 := fun d os => cell_regrown c1 d os
      have q2 := fun d os => cell_regrown c2 d os
      have v0 := HVB.out 0
      have v1 := HVB.out (j + 1)
      have v2 := HVB.out n
      have e1 : wrap64 (V 0 + ha) = V 0 + ha := wrap64_id (by omega) (by omega)
      have e2 : wrap64 (V n + hb) = V n + hb := wrap64_id (by omega) (by omega)
      have HC : Hid (∀ W, Calls Tryd.prog 26 #[.int .i64 (V (j + 1)), .int .i64 (V 0 + ha), .int .i64 (V n + hb), .int .i64 ((j : Int) + 1), .int .i64 (n : Int)] W fun e W' => e = .returned (.tuple #[.bool (hidAt V ha hb n (j + 1)), .int .i64 0]) ∧ Below W.heap.size W W') := fun W => by
        refine (hides_ok (V (j + 1)) (V 0 + ha) (V n + hb) ((j : Int) + 1) (n : Int) W (by omega) (by omega) (by omega) (by omega) (by omega) (by omega) (by omega) (by omega) (by omega) (by omega)).mono ?_
        rintro e w' ⟨rfl, rfl⟩
        refine ⟨?_, Below.refl _ _⟩
        unfold hidAt
        push_cast
        rfl
      have i1 : (0 : Int) ≤ (j : Int) + 1 := by omega
      have i2 : (j : Int) + 1 < (n : Int) + 1 := by omega
      have i3 : (n : Int) < (n : Int) + 1 := by omega
      have i4 : (0 : Int) < (n : Int) + 1 := by omega
      have i5 : (0 : Int) ≤ (n : Int) := by omega
      clear v0 v1 v2 c0 c1 c2
      go_wp2_with fail
      refine wp_quiet (by kernel_rfl) (by kernel_rfl) ?_
      repeat (go_big_quiet_step ((first | (go_at_call 26; with_reducible exact Calls.quiet (HC.out _)))))
      refine wpQuiet_nil ?_
      intro w5 hb5
      have hb6 := hbr.trans (hb5.mono hbr.size)
      have n2s := below_blk hb5 n2r
      clear q0 q1 q2 i1 i2 i3 i4 i5 HC e1 e2 n2r hb5 hbr
      cases hh : hidAt V ha hb n (j + 1) with
      | false =>
        have HH := Lib.hid hh
        go_wp2_with fail
        go_roundg m
        case measure => omega
        case rel =>
          refine ⟨j + 1, by have := hj.out; exact (show j + 1 + m = n - 1 by omega), congrArg (Value.int .i64) (by push_cast; omega), fun i h1 h2 => ?_, hb6⟩
          by_cases e : i = j + 1
          · subst e; exact HH.out
          · exact hall.out i h1 (by omega)
      | true =>
        have HH := Lib.hid hh
        have n0s := below_blk hb6 n_0
        have n1s := below_blk hb6 n_1
        have hBr := below_next n_B hb6
        clear hh
        have i_0 := cells_w n0s 0 rfl
        have i_1 := cells_w n0s 1 rfl
        have l_0 := cells_w n1s 0 rfl
        have l_1 := cells_w n1s 1 rfl
        go_wp2_with fail
        have hat := HAT.out (j + 1) w5 hjn
        rw [show (((j + 1 : Nat)) : Int) = (j : Int) + 1 by push_cast; rfl] at hat
        refine hat.mono ?_
        rintro e w7 ⟨rfl, hb7⟩
        have n2t := below_blk hb7 n2s
        have hBs := below_next hBr hb7
        obtain ⟨CX, hCX⟩ : ∃ CX, rX ax ay bx by' ((j : Int) + 1) = CX := ⟨_, rfl⟩
        obtain ⟨CY, hCY⟩ : ∃ CY, rY ax ay bx by' ((j : Int) + 1) = CY := ⟨_, rfl⟩
        rw [hCX, hCY]
        have HCXY := Lib.hid (And.intro hCX hCY)
        clear hat hb7 n2s hBr i_0 i_1 l_0 l_1 n0s n1s hCX hCY
        go_wp2_with fail
        have nD := blk_new w7 (.cells #[.int .i64 CX, .int .i64 CY] 24)
        have hbA := below_alloc1 w7 (.cells #[.int .i64 CX, .int .i64 CY] 24)
        obtain ⟨w8, hw8⟩ : ∃ w8, w7.alloc (.cells #[.int .i64 CX, .int .i64 CY] 24) = w8 := ⟨_, rfl⟩
        obtain ⟨D, hD⟩ : ∃ D, w7.heap.size = D := ⟨_, rfl⟩
        have hDne : D ≠ W.heap.size + 1 + 1 := by have := blk_lt n2t; omega
        have hDne2 : W.heap.size + 1 + 1 ≠ D := fun e => hDne e.symm
        rw [hw8] at nD hbA ⊢
        rw [hD] at nD ⊢
        have n2u := below_blk hbA n2t
        have hBt := below_next hBs hbA
        clear hw8 hD hbA hBs n2t
        have x0 := cells_w nD 0 rfl
        have x1 := cells_w nD 1 rfl
        have i_0 := cells_w n2u 0 rfl
        have i_1 := cells_w n2u 1 rfl
        have z_0 := blk_frozen n2u 0
        have z_1 := blk_frozen n2u 1
        go_region
        go_wp2_with fail
        refine bodyPost_ret (res_tct rfl rfl (blk_drew (blk_set (blk_set n2u 0 _) 1 _)) agg_Cell rfl) rfl ?_
        refine ⟨false, CX, CY, rfl, below_drew1 ((hBt.setCell (by first | (simp; done) | (simp; omega)) _).setCell (by first | (simp; done) | (simp; omega)) _), .inr ⟨rfl, j + 1, by omega, hjn, HH.out, fun i h1 h2 => hall.out i h1 h2, ?_, ?_⟩⟩
        · rw [← HCXY.out.1]; push_cast; rfl
        · rw [← HCXY.out.2]; push_cast; rfl
end Go.Proofs.YtcomnpmkedabeaaDoor

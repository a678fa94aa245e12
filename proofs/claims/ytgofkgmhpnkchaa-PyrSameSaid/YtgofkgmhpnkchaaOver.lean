/- hachurelaw16.Over: a pyramid that is that of a model. -/
import Derived.Test.YtgofkgmhpnkchaaBuild
set_option linter.unusedVariables false
set_option linter.unusedSimpArgs false
namespace Go.Proofs.Ytgofkgmhpnkchaa
open Go.RowKit

set_option maxHeartbeats 4000000 in
set_option maxRecDepth 100000 in
theorem over_ok (p : Nat) (F : Nat → Prop) (ad : Addr) (cap0 N : Nat) (u : Nat → Int) (w h : Int) (W : World) (HP : PyrAt W p F w h (fun x y => u ((y * w + x).toNat))) (hN : (N : Int) = w * h) (hRow : RowAt W ad N u) :
    Calls Try.prog 15 #[.pointer (some ⟨p, 0, none⟩), .agg #[.int .i64 w, .int .i64 h, .slice (some ad) N cap0]] W fun e W' => e = .returned (.bool true) ∧ Below W.heap.size W W' := by
  obtain ⟨w1, w2, h1, h2⟩ := HP.dims
  have hL := levs_bd w1 w2 h1 h2
  obtain ⟨L, hLe⟩ : ∃ L, levs w h = L := ⟨_, rfl⟩
  have HL := Lib.hid hLe
  rw [hLe] at hL
  have HN := Lib.hid hN
  clear hLe hN
  go_enter Try.func15, Try.ntmps15
  go_wp2_with fail
  have n0 := blk_new W (.cells #[.int .i64 w, .int .i64 h, .slice (some ad) N cap0] 27)
  have hB := below_alloc1 W (.cells #[.int .i64 w, .int .i64 h, .slice (some ad) N cap0] 27)
  refine (ref15_sizes_ok w h _ w1 w2 h1 h2).mono ?_
  rintro e w3 ⟨k0, capl, cs, rfl, hcap, hk0, hb, hrow, hcs⟩
  replace n0 := below_blk hb n0
  replace hB := below_next hB hb
  rw [HL.out] at hcs ⊢
  have HP3 := HP.below hB
  clear hb hk0 hcap HP
  obtain ⟨A, cap, ps, s, HR⟩ := HP3
  have i_0 := cells_w n0 0 rfl
  have i_1 := cells_w n0 1 rfl
  have i_2 := cells_w n0 2 rfl
  go_wp2_with fail
  refine (pyr_Size_ok p F w h _ A cap ps s w3 HR).mono ?_
  rintro e w4 ⟨rfl, hb⟩
  replace n0 := below_blk hb n0
  replace hrow := below_blk hb hrow
  replace hB := below_next hB hb
  have HR4 := HR.below hb
  clear hb i_0 i_1 i_2 HR
  have i_0 := cells_w n0 0 rfl
  have i_1 := cells_w n0 1 rfl
  have i_2 := cells_w n0 2 rfl
  go_wp2_with fail
  refine (pyr_Levels_ok p F w h _ A cap ps s w4 HR4).mono ?_
  rw [HL.out]
  rintro e w5 ⟨rfl, rfl⟩
  go_wp2_with fail
  have HP4 : PyrAt w4 p F w h (fun x y => u ((y * w + x).toNat)) := ⟨A, cap, ps, s, HR4⟩
  have HPY := Lib.hid HP4
  have HRW := Lib.hid (hRow.below hB)
  have HCS := Lib.hid hcs
  obtain ⟨E, hE⟩ : ∃ E, W.heap.size = E := ⟨_, rfl⟩
  have hBE := Lib.hid hB
  rw [hE] at n0 ⊢
  clear hE HR4 HP4 hRow hcs hB i_0 i_1 i_2
  go_loopg [8] L (fun q v8 wr => ∃ kk : Nat, Hid (kk + q = L) ∧ v8 = .int .i64 (kk : Int) ∧ Below w4.heap.size w4 wr)
  case atStart => exact ⟨0, Nat.zero_add _, rfl, Below.refl _ _⟩
  case round =>
    obtain ⟨kk, hk, rfl, hbr⟩ := hrel
    cases gk with
    | zero =>
      have ht : decide (kk < L) = false := decide_eq_false (by have := hk.out; omega)
      have ht2 : decide ((kk : Int) < (L : Int)) = false := decide_eq_false (by have := hk.out; omega)
      go_wp2_with fail
      go_ret
      exact ⟨rfl, below_next hBE.out hbr⟩
    | succ m =>
      have hlt : kk < L := by have := hk.out; omega
      have hlti : (kk : Int) < (L : Int) := by omega
      have ht : decide (kk < L) = true := decide_eq_true hlt
      have ht2 : decide ((kk : Int) < (L : Int)) = true := decide_eq_true (by omega)
      have bw := lw_bd w1 kk
      have bh := lw_bd h1 kk
      have hmm := mul_bd (a := lw w kk) (b := lw h kk) (A := 1024) (B := 1024) (by omega) (by omega) (by omega) (by omega)
      obtain ⟨M, hM⟩ : ∃ M : Nat, (M : Int) = lw w kk * lw h kk := ⟨(lw w kk * lw h kk).toNat, by omega⟩
      have hM1 : M ≤ 1048576 := by omega
      have u1 : IntKind.i64.wrap (lw w kk * lw h kk) = (M : Int) := by rw [IntWalk.i64_in _ (by omega), hM]
      have u2 : wrap64 (lw w kk * lw h kk) = (M : Int) := by rw [wrap64_id (by omega) (by omega), hM]
      have HM := Lib.hid hM
      clear hM hmm
      go_wp2_with fail
      go_loopg [9] M (fun q v9 wr => ∃ i : Nat, Hid (i + q = M) ∧ v9 = .int .i64 (i : Int) ∧ Below w4.heap.size w4 wr)
      case atStart => exact ⟨0, Nat.zero_add _, rfl, hbr⟩
      case round =>
        clear hbr
        obtain ⟨i, hi, rfl, hbr⟩ := hrel
        have mrow := below_blk hbr hrow
        have c0 := (blk_cell mrow (kk * 2)).trans (HCS.out kk hlt).1
        have c1 := (blk_cell mrow (kk * 2 + 1)).trans (HCS.out kk hlt).2
        have q0 := fun d os => cell_regrown c0 d os
        have q1 := fun d os => cell_regrown c1 d os
        cases gk with
        | zero =>
          have hi2 : decide (i < M) = false := decide_eq_false (by have := hi.out; omega)
          have hi3 : decide ((i : Int) < (M : Int)) = false := decide_eq_false (by have := hi.out; omega)
          go_wp2_with fail
          refine wp_quiet (by kernel_rfl) (by kernel_rfl) ?_
          repeat (go_big_quiet_step ((first | fail)))
          refine wpQuiet_nil ?_
          intro w5 hb5
          clear q0 q1 c0 c1
          go_wp2_with fail
          go_roundg m
          case measure => omega
          case rel => exact ⟨kk + 1, by have := hk.out; exact (show kk + 1 + m = L by omega), by first | rfl | (exact congrArg (Value.int .i64) (by push_cast; omega)), hbr.trans (hb5.mono hbr.size)⟩
        | succ q =>
          have hiM : i < M := by have := hi.out; omega
          have hiMi : (i : Int) < (M : Int) := by omega
          have hi2 : decide (i < M) = true := decide_eq_true hiM
          have hi3 : decide ((i : Int) < (M : Int)) = true := decide_eq_true hiMi
          go_wp2_with fail
          refine wp_quiet (by kernel_rfl) (by kernel_rfl) ?_
          repeat (go_big_quiet_step ((first | fail)))
          refine wpQuiet_nil ?_
          intro w5 hb5
          have hbr5 : Below w4.heap.size w4 w5 := hbr.trans (hb5.mono hbr.size)
          clear q0 q1 c0 c1 mrow hbr hb5
          have mrow := below_blk hbr5 hrow
          have c0 := (blk_cell mrow (kk * 2)).trans (HCS.out kk hlt).1
          have ca := fun o => cell_drew (cell_alloc (o := o) c0)
          have cb := cell_drew c0
          go_wp2_with fail
          have hlin := lin_at (w := lw w kk) (h := lw h kk) (i := i) (by omega) (by have := HM.out; omega)
          have u3 : wrap64 ((i : Int) / lw w kk) = (i : Int) / lw w kk := wrap64_id (by omega) (by omega)
          have HLIN := Lib.hid (And.intro hlin.1 (And.intro hlin.2.1 (And.intro hlin.2.2.1 hlin.2.2.2.1)))
          clear hlin
          go_region
          clear ca cb c0 mrow u3
          have nC : ((w5.alloc (.cells #[.int .i64 ((i : Int) % lw w kk), .int .i64 ((i : Int) / lw w kk)] 24)).drew).heap[w5.heap.size]? = some (.cells #[.int .i64 ((i : Int) % lw w kk), .int .i64 ((i : Int) / lw w kk)] 24 (0, 0)) := blk_drew (blk_new _ _)
          have hbr6 : Below w4.heap.size w4 ((w5.alloc (.cells #[.int .i64 ((i : Int) % lw w kk), .int .i64 ((i : Int) / lw w kk)] 24)).drew) := below_drew1 (below_alloc hbr5 _)
          obtain ⟨w6, hw6⟩ : ∃ w6, ((w5.alloc (.cells #[.int .i64 ((i : Int) % lw w kk), .int .i64 ((i : Int) / lw w kk)] 24)).drew) = w6 := ⟨_, rfl⟩
          rw [hw6] at nC hbr6 ⊢
          clear hw6 hbr5
          obtain ⟨C, hC⟩ : ∃ C, w5.heap.size = C := ⟨_, rfl⟩
          rw [hC] at nC ⊢
          clear hC
          have k_0 := cells_w nC 0 rfl
          have k_1 := cells_w nC 1 rfl
          go_wp2_with fail
          refine (pyr_At_any p F w h _ _ kk _ w6 (HPY.out.below hbr6)).mono ?_
          rintro e w7 ⟨ra, rb, rc, rfl, hA1, hb7⟩
          replace nC := below_blk hb7 nC
          have hbr7 := below_next hbr6 hb7
          have n07 := below_blk hbr7 n0
          clear hbr6 hb7 k_0 k_1
          have ka := fun o => cells_w (below_blk (below_alloc1 w7 o) nC) 0 rfl
          have kb := fun o => cells_w (below_blk (below_alloc1 w7 o) nC) 1 rfl
          have la := fun o => cells_w (below_blk (below_alloc1 w7 o) n07) 0 rfl
          have lb := fun o => cells_w (below_blk (below_alloc1 w7 o) n07) 1 rfl
          have lc := fun o => cells_w (below_blk (below_alloc1 w7 o) n07) 2 rfl
          go_wp2_with fail
          have hbr8 := below_alloc hbr7 (.cells #[.int .i64 ra, .int .i64 rb] 39)
          refine (at16_any ad cap0 N u w h kk _ _ _ w1 w2 h1 h2 HN.out (HRW.out.below hbr8)).mono ?_
          rintro e w9 ⟨ra2, rb2, rc2, rfl, hA2, hb9⟩
          have hrc : rc = 0 := by
            unfold AtIs at hA1
            rw [if_pos ⟨by omega, by have := HL.out; omega⟩, if_pos (by rw [Int.toNat_natCast]; exact ⟨HLIN.out.1, HLIN.out.2.1, HLIN.out.2.2.1, HLIN.out.2.2.2⟩)] at hA1
            exact hA1.1
          obtain ⟨rfl, rfl, rfl⟩ := hA1.unique hA2
          subst hrc
          have nA := below_blk hb9 (blk_new w7 (.cells #[.int .i64 ra, .int .i64 rb] 39))
          have hbr9 := below_next hbr8 hb9
          clear hA1 hA2 hb9 hbr8 hbr7 n07 nC ka kb la lb lc
          have k_0 := cells_w nA 0 rfl
          have k_1 := cells_w nA 1 rfl
          have ka := fun o => cells_w (below_blk (below_alloc1 w9 o) nA) 0 rfl
          have kb := fun o => cells_w (below_blk (below_alloc1 w9 o) nA) 1 rfl
          go_wp2_with fail
          go_roundg q
          case measure => omega
          case rel => exact ⟨i + 1, by have := hi.out; exact (show i + 1 + q = M by omega), by first | rfl | (exact congrArg (Value.int .i64) (by push_cast; omega)), below_alloc hbr9 _⟩
end Go.Proofs.Ytgofkgmhpnkchaa

/- slope.Cmp of two right slopes. -/
import Derived.Test.YtcomnpmkedabeaaDoorCmp3
set_option linter.unusedVariables false
set_option linter.unusedSimpArgs false
namespace Go.Proofs.YtcomnpmkedabeaaDoor
open Go.RowKit

theorem agg_Slope : AggTy Tryd.prog 34 2 := ⟨⟨_, Tryd.underlying34⟩, by kernel_rfl⟩
theorem agg_wide : AggTy Tryd.prog 118 2 := ⟨⟨_, Tryd.underlying118⟩, by kernel_rfl⟩
theorem slope_right_ok (up on : Int) (W : World) : Calls Tryd.prog 60 #[.agg #[.int .i64 up, .int .i64 on]] W fun e W' => e = .returned (.bool (decide (1 ≤ on))) ∧ Below W.heap.size W W' := by
  go_enter Tryd.func60, Tryd.ntmps60
  go_wp2_with fail
  go_ret
  exact ⟨rfl, below_alloc1 W _⟩
theorem slope_sign_ok (n : Int) (W : World) : Calls Tryd.prog 62 #[.int .i64 n] W fun e W' => e = .returned (.int .i64 (cmpI n 0)) ∧ W = W' := by
  go_enter Tryd.func62, Tryd.ntmps62
  go_wp2_with (go_at_call 77; refine (cmp_int64_ok _ _ _).mono ?_; rintro e w' ⟨rfl, rfl⟩)
  go_ret
  exact ⟨rfl, rfl⟩
theorem slope_size_ok (n : Int) (W : World) (h1 : -1099511627776 ≤ n) (h2 : n ≤ 1099511627776) : Calls Tryd.prog 65 #[.int .i64 n] W fun e W' => e = .returned (.int .u64 ((n.natAbs : Nat) : Int)) ∧ W = W' := by
  by_cases h : n < 0
  · have t1 := decide_eq_true h
    go_enter Tryd.func65, Tryd.ntmps65
    go_wp2_with fail
    go_ret
    refine ⟨?_, rfl⟩
    have : IntKind.u64.wrap (-IntKind.u64.wrap n) = ((n.natAbs : Nat) : Int) := by rw [IntKind.wrap_u64, IntKind.wrap_u64]; omega
    first | (rw [this]; done) | (exact congrArg (fun z => Ending.returned (Value.int .u64 z)) this)
  · have t1 := decide_eq_false h
    go_enter Tryd.func65, Tryd.ntmps65
    go_wp2_with fail
    go_ret
    refine ⟨?_, rfl⟩
    have : IntKind.u64.wrap n = ((n.natAbs : Nat) : Int) := by rw [IntKind.wrap_u64]; omega
    first | (rw [this]; done) | (exact congrArg (fun z => Ending.returned (Value.int .u64 z)) this) | (exact congrArg (fun z => Ending.returned (Value.int .u64 z)) (by omega))
set_option maxHeartbeats 1000000 in
theorem slope_product_ok (x y : Nat) (hx : x ≤ 1099511627776) (hy : y ≤ 1048576) (W : World) :
    Calls Tryd.prog 64 #[.int .u64 (x : Int), .int .u64 (y : Int)] W fun e W' => e = .returned (.agg #[.int .u64 0, .int .u64 ((x * y : Nat) : Int)]) ∧ Below W.heap.size W W' := by
  have hm := Nat.mul_le_mul hx hy
  have e1 : x * y / 18446744073709551616 = 0 := Nat.div_eq_of_lt (by omega)
  have e2 : x * y % 18446744073709551616 = x * y := Nat.mod_eq_of_lt (by omega)
  have hB := below_alloc1 W (.cells #[.int .u64 0, .int .u64 0] 118)
  have nR := blk_new W (.cells #[.int .u64 0, .int .u64 0] 118)
  have zR0 := blk_frozen nR 0
  have hc := mul64_ok x y (by omega) (by omega)
  rw [e1, e2] at hc
  have HC := Lib.hid hc
  clear hc e1 e2 hm
  go_enter Tryd.func64, Tryd.ntmps64
  go_wp2_with (go_at_call 80; refine (HC.out _).mono ?_; rintro e w' ⟨rfl, rfl⟩)
  refine bodyPost_ret (res_c rfl rfl (blk_new _ _) agg_wide rfl) rfl ?_
  exact ⟨by push_cast; rfl, below_alloc1 _ _⟩

set_option maxHeartbeats 2000000 in
theorem slope_compare_ok (a b c d : Int) (W : World) :
    Calls Tryd.prog 63 #[.agg #[.int .u64 a, .int .u64 b], .agg #[.int .u64 c, .int .u64 d]] W fun e W' => e = .returned (.int .i64 (or2 (cmpI a c) (cmpI b d))) ∧ Below W.heap.size W W' := by
  go_enter Tryd.func63, Tryd.ntmps63
  go_wp2_with fail
  have n0 := below_blk (below_alloc1 _ (.cells #[.int .u64 c, .int .u64 d] 118)) (blk_new W (.cells #[.int .u64 a, .int .u64 b] 118))
  have n1 := blk_new2 W (.cells #[.int .u64 a, .int .u64 b] 118) (.cells #[.int .u64 c, .int .u64 d] 118)
  have hB := below_alloc (below_alloc1 W (.cells #[.int .u64 a, .int .u64 b] 118)) (.cells #[.int .u64 c, .int .u64 d] 118)
  obtain ⟨w2, hw2⟩ : ∃ w2, (W.alloc (.cells #[.int .u64 a, .int .u64 b] 118)).alloc (.cells #[.int .u64 c, .int .u64 d] 118) = w2 := ⟨_, rfl⟩
  rw [hw2] at n0 n1 hB ⊢
  clear hw2
  have i_0 := cells_q n0 0 rfl
  have i_1 := cells_q n0 1 rfl
  have j_0 := cells_q n1 0 rfl
  have j_1 := cells_q n1 1 rfl
  refine wp_tail 10 (by kernel_rfl) (by kernel_rfl) ?_
  simp only [List.take_succ_cons, List.take_zero, List.drop_succ_cons, List.drop_zero]
  repeat (go_big_quiet_step ((first | (go_at_call 79; exact Calls.quiet ((cmp_uint64_ok _ _ _).mono (by rintro e w' ⟨rfl, rfl⟩; exact ⟨rfl, Below.refl _ _⟩))))))
  refine wpQuiet_nil ?_
  intro w3 hb3
  clear i_0 i_1 j_0 j_1
  go_wp2_with fail
  have n3 := blk_new w3 (.cells #[.int .i64 (cmpI a c), .int .i64 (cmpI b d)] 3)
  refine (cmp_or2_ok w3.heap.size 2 (cmpI a c) (cmpI b d) _ (cells_w n3 0 rfl) (cells_w n3 1 rfl)).mono ?_
  rintro e w4 ⟨rfl, rfl⟩
  go_wp2_with fail
  go_ret
  exact ⟨rfl, below_alloc (below_next hB hb3) _⟩

/-- Signs alone tell. -/
theorem sgn_apart {a b c d : Int} (hb : 0 < b) (hd : 0 < d) (h : cmpI (cmpI a 0) (cmpI c 0) ≠ 0) : cmpI (cmpI a 0) (cmpI c 0) = cmpS a b c d := by
  have p1 : 0 < a → 0 < a * d := fun h => Int.mul_pos h hd
  have p2 : a < 0 → a * d < 0 := fun h => Int.mul_neg_of_neg_of_pos h hd
  have p3 : 0 < c → 0 < c * b := fun h => Int.mul_pos h hb
  have p4 : c < 0 → c * b < 0 := fun h => Int.mul_neg_of_neg_of_pos h hb
  have p5 : a = 0 → a * d = 0 := fun h => by rw [h, Int.zero_mul]
  have p6 : c = 0 → c * b = 0 := fun h => by rw [h, Int.zero_mul]
  unfold cmpS
  generalize a * d = x at *
  generalize c * b = y at *
  unfold cmpI at *
  unfold sgn
  rcases Int.lt_trichotomy a 0 with k | k | k <;> rcases Int.lt_trichotomy c 0 with l | l | l <;> simp [k, l] at h ⊢ <;> (try (have := p1 k)) <;> (try (have := p2 k)) <;> (try (have := p3 l)) <;> (try (have := p4 l)) <;> (try (have := p5 k)) <;> (try (have := p6 l)) <;> (repeat' (split <;> try omega)) <;> omega
theorem sgn_alike {a b c d : Int} (hb : 0 < b) (hd : 0 < d) (h : cmpI (cmpI a 0) (cmpI c 0) = 0) :
    (if a < 0 then -(or2 (cmpI 0 0) (cmpI ((a.natAbs : Int) * (d.natAbs : Int)) ((c.natAbs : Int) * (b.natAbs : Int)))) else or2 (cmpI 0 0) (cmpI ((a.natAbs : Int) * (d.natAbs : Int)) ((c.natAbs : Int) * (b.natAbs : Int)))) = cmpS a b c d := by
  have e0 : cmpI 0 0 = 0 := by decide
  have o2 : ∀ z, or2 0 z = z := fun z => if_pos rfl
  rw [e0, o2, ← Int.natCast_mul, ← Int.natCast_mul, ← Int.natAbs_mul, ← Int.natAbs_mul]
  have p1 : 0 < a → 0 < a * d := fun h => Int.mul_pos h hd
  have p2 : a < 0 → a * d < 0 := fun h => Int.mul_neg_of_neg_of_pos h hd
  have p3 : 0 < c → 0 < c * b := fun h => Int.mul_pos h hb
  have p4 : c < 0 → c * b < 0 := fun h => Int.mul_neg_of_neg_of_pos h hb
  have p5 : a = 0 → a * d = 0 := fun h => by rw [h, Int.zero_mul]
  have p6 : c = 0 → c * b = 0 := fun h => by rw [h, Int.zero_mul]
  unfold cmpS
  generalize a * d = x at *
  generalize c * b = y at *
  unfold cmpI at *
  unfold sgn
  rcases Int.lt_trichotomy a 0 with k | k | k
  · have q := p2 k
    have l : c < 0 := by
      rcases Int.lt_trichotomy c 0 with l | l | l
      · exact l
      · simp [k, l] at h
      · have : ¬ c < 0 := by omega
        simp [k, l, this] at h
    have r := p4 l
    rw [if_pos k]
    repeat' split
    all_goals omega
  · have q := p5 k
    subst k
    have l : c = 0 := by
      rcases Int.lt_trichotomy c 0 with l | l | l
      · simp [l] at h
      · exact l
      · have : ¬ c < 0 := by omega
        simp [l, this] at h
    have r := p6 l
    rw [if_neg (by omega)]
    repeat' split
    all_goals omega
  · have q := p1 k
    have k' : ¬ a < 0 := by omega
    have l : 0 < c := by
      rcases Int.lt_trichotomy c 0 with l | l | l
      · simp [k, k', l] at h
      · simp [k, k', l] at h
      · exact l
    have r := p3 l
    rw [if_neg k']
    repeat' split
    all_goals omega

set_option maxHeartbeats 4000000 in
set_option maxRecDepth 100000 in
theorem slope_cmp_ok (a b c d : Int) (W : World) (hb : 1 ≤ b) (hb2 : b ≤ 1048576) (hd : 1 ≤ d) (hd2 : d ≤ 1048576) (ha1 : -1099511627776 ≤ a) (ha2 : a ≤ 1099511627776) (hc1 : -1099511627776 ≤ c) (hc2 : c ≤ 1099511627776) :
    Calls Tryd.prog 36 #[.agg #[.int .i64 a, .int .i64 b], .agg #[.int .i64 c, .int .i64 d]] W fun e W' => e = .returned (.tuple #[.int .i64 (cmpS a b c d), .int .i64 0]) ∧ Below W.heap.size W W' := by
  have tb : decide (1 ≤ b) = true := decide_eq_true hb
  have td : decide (1 ≤ d) = true := decide_eq_true hd
  go_enter Tryd.func36, Tryd.ntmps36
  go_wp2_with fail
  have n0 := below_blk (below_alloc1 _ (.cells #[.int .i64 c, .int .i64 d] 34)) (blk_new W (.cells #[.int .i64 a, .int .i64 b] 34))
  have n1 := blk_new2 W (.cells #[.int .i64 a, .int .i64 b] 34) (.cells #[.int .i64 c, .int .i64 d] 34)
  have hB := below_alloc (below_alloc1 W (.cells #[.int .i64 a, .int .i64 b] 34)) (.cells #[.int .i64 c, .int .i64 d] 34)
  refine (slope_right_ok a b _).mono ?_
  rw [tb]
  rintro e w2 ⟨rfl, hbb⟩
  replace n0 := below_blk hbb n0
  replace n1 := below_blk hbb n1
  replace hB := below_next hB hbb
  clear hbb
  have i_0 := cells_w n1 0 rfl
  have i_1 := cells_w n1 1 rfl
  go_wp2_with fail
  refine (slope_right_ok c d _).mono ?_
  rw [td]
  rintro e w3 ⟨rfl, hbb⟩
  replace n0 := below_blk hbb n0
  replace n1 := below_blk hbb n1
  replace hB := below_next hB hbb
  clear hbb i_0 i_1
  go_wp2_with fail
  have i_0 := cells_q n0 0 rfl
  have i_1 := cells_q n0 1 rfl
  have j_0 := cells_q n1 0 rfl
  have j_1 := cells_q n1 1 rfl
  refine wp_quiet (by kernel_rfl) (by kernel_rfl) ?_
  repeat (go_big_quiet_step ((first | (go_at_call 62; exact Calls.quiet ((slope_sign_ok _ _).mono (by rintro e w' ⟨rfl, rfl⟩; exact ⟨rfl, Below.refl _ _⟩))) | (go_at_call 61; exact Calls.quiet ((cmp_int_ok _ _ _).mono (by rintro e w' ⟨rfl, rfl⟩; exact ⟨rfl, Below.refl _ _⟩))))))
  refine wpQuiet_nil ?_
  intro w4 hb4
  clear i_0 i_1 j_0 j_1
  replace n0 := below_blk hb4 n0
  replace n1 := below_blk hb4 n1
  replace hB := below_next hB hb4
  clear hb4
  by_cases hs : cmpI (cmpI a 0) (cmpI c 0) = 0
  rotate_left
  · have hsb : (cmpI (cmpI a 0) (cmpI c 0) != 0) = true := by simp [hs]
    have HE := Lib.hid (sgn_apart (b := b) (d := d) (by omega) (by omega) hs)
    clear hs
    go_wp2_with fail
    go_ret2
    exact ⟨by rw [← HE.out]; rfl, hB⟩
  have hsb : (cmpI (cmpI a 0) (cmpI c 0) != 0) = false := by simp [hs]
  have HE := Lib.hid (sgn_alike (a := a) (b := b) (c := c) (d := d) (by omega) (by omega) hs)
  clear hs
  go_wp2_with fail
  have i_0 := cells_q n0 0 rfl
  have i_1 := cells_q n0 1 rfl
  have j_0 := cells_q n1 0 rfl
  have j_1 := cells_q n1 1 rfl
  have la : a.natAbs ≤ 1099511627776 := by omega
  have lc : c.natAbs ≤ 1099511627776 := by omega
  have lb : b.natAbs ≤ 1048576 := by omega
  have ld : d.natAbs ≤ 1048576 := by omega
  have hb3 : -1099511627776 ≤ b ∧ b ≤ 1099511627776 := by omega
  have hd3 : -1099511627776 ≤ d ∧ d ≤ 1099511627776 := by omega
  obtain ⟨hb3, hb4⟩ := hb3
  obtain ⟨hd3, hd4⟩ := hd3
  refine wp_quiet (by kernel_rfl) (by kernel_rfl) ?_
  repeat (go_big_quiet_step ((first | (go_at_call 65; exact Calls.quiet ((slope_size_ok _ _ (by assumption) (by assumption)).mono (by rintro e w' ⟨rfl, rfl⟩; exact ⟨rfl, Below.refl _ _⟩))) | (go_at_call 64; exact Calls.quiet (slope_product_ok _ _ (by assumption) (by assumption) _)) | (go_at_call 63; exact Calls.quiet (slope_compare_ok _ _ _ _ _)))))
  refine wpQuiet_nil ?_
  intro w5 hb5
  clear i_0 i_1 j_0 j_1
  replace n0 := below_blk hb5 n0
  replace hB := below_next hB hb5
  have i_0 := cells_w n0 0 rfl
  have i_1 := cells_w n0 1 rfl
  have hcb := cmpS_bd a b c d
  by_cases hn : a < 0
  · have tn := decide_eq_true hn
    have HE2 := HE.out
    rw [if_pos hn] at HE2
    have HE3 := Lib.hid HE2
    obtain ⟨R, hR⟩ : ∃ R, or2 (cmpI 0 0) (cmpI ((a.natAbs : Int) * (d.natAbs : Int)) ((c.natAbs : Int) * (b.natAbs : Int))) = R := ⟨_, rfl⟩
    rw [hR] at HE2 ⊢
    have hw : wrap64 (-R) = -R := wrap64_id (by omega) (by omega)
    have HE4 := Lib.hid HE2
    clear HE2
    go_wp2_with fail
    go_ret2
    exact ⟨ret2_int (hw.trans HE4.out), hB⟩
  · have tn := decide_eq_false hn
    have HE2 := HE.out
    rw [if_neg hn] at HE2
    have HE3 := Lib.hid HE2
    clear HE2
    go_wp2_with fail
    go_ret2
    exact ⟨by rw [← HE3.out]; rfl, hB⟩
end Go.Proofs.YtcomnpmkedabeaaDoor

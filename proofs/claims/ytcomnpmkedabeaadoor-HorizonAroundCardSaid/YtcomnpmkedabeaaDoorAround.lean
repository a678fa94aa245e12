/- horizon.Around, Open. -/
import Derived.Test.YtcomnpmkedabeaaDoorHorSteep
import Derived.Test.YtcomnpmkedabeaaDoorGridNew
set_option linter.unusedVariables false
set_option linter.unusedSimpArgs false
namespace Go.Proofs.YtcomnpmkedabeaaDoor
open Go.RowKit

/-- make([]T, n), each element some cells. -/
theorem make_cells {P : Program} {ops : Array Oper} {rest : List Oper} {o : Oper} {a : Act} {Q : Exit → Act → World → Prop} {W : World} (hgd : o.guard = none) (l c : Operand) (t : TypeId) (hop : o.op = Op.makeSlice t l c)
    (e : TypeId) (z : Value) (size bytes : Nat) (ht : P.underlying t = some (.slice e)) (hinfo : (P.info? e).map (fun i => (i.zero, i.size, i.bytes)) = some (some z, size, bytes)) (hz : z.cells.size = size)
    (n : Nat) (hl : a.eval l = .int .i64 (n : Int)) (hc : a.eval c = .int .i64 (n : Int)) (b2 : bytes * n ≤ 281474976710656) (b3 : n ≤ 281474976710656)
    (h : ∀ cs, cs.size = n * size → wpList P ops Q rest (a.put o.dst (.slice (some ⟨W.heap.size, 0, none⟩) n n)) (W.alloc (.cells cs e))) : wpList P ops Q (o :: rest) a W := by
  refine wpList_plain hgd fun K hK => ?_
  obtain ⟨i0, hi, hzz⟩ := Option.map_eq_some_iff.1 hinfo
  simp only [Prod.mk.injEq] at hzz
  obtain ⟨hz0, hz1, hz2⟩ := hzz
  have hb' : (i0.bytes : Int) * (n : Int) ≤ 281474976710656 := by
    have h : ((i0.bytes * n : Nat) : Int) ≤ 281474976710656 := by rw [hz2]; omega
    rwa [Int.natCast_mul] at h
  have hr := run_make (P := P) W t e i0 z ht hi hz0 .i64 .i64 n n (by omega) (Int.le_refl _) hb' (by omega)
  simp only [Int.toNat_natCast, hz1] at hr
  unfold Oper.wp
  simp only [execOp, hop, hl, hc, Sem.run_bind, Sem.run_pure, hr, Result.andThen_ok]
  exact hK _ _ (h _ (size_madeCells _ _))
theorem below_alloc' {w W : World} (h : Below w.heap.size w W) (o : Obj) : Below w.heap.size w (W.alloc o) := h.alloc h.size o
/-- Where nothing rises. -/
def cntU (U : Nat → Int) : Nat → Int
  | 0 => 0
  | j + 1 => if U j ≤ 0 then cntU U j + 1 else cntU U j
theorem cntU_bd (U : Nat → Int) : ∀ j, 0 ≤ cntU U j ∧ cntU U j ≤ (j : Int)
  | 0 => ⟨Int.le_refl _, Int.le_refl _⟩
  | j + 1 => by
    have := cntU_bd U j
    show 0 ≤ (if U j ≤ 0 then cntU U j + 1 else cntU U j) ∧ (if U j ≤ 0 then cntU U j + 1 else cntU U j) ≤ ((j + 1 : Nat) : Int)
    split <;> omega
theorem cntU_yes {U : Nat → Int} {j : Nat} (h : U j ≤ 0) : cntU U (j + 1) = cntU U j + 1 := if_pos h
theorem cntU_no {U : Nat → Int} {j : Nat} (h : ¬ U j ≤ 0) : cntU U (j + 1) = cntU U j := if_neg h
/-- Eight slopes. -/
def SlopesUp (W : World) (K : Nat) (U : Nat → Int) (On : Nat → Nat) : Prop := ∀ q, q < 8 → W.cell? ⟨K, q * 2, none⟩ = some (.int .i64 (U q)) ∧ W.cell? ⟨K, q * 2 + 1, none⟩ = some (.int .i64 ((On q : Nat) : Int))
theorem SlopesUp.below {W W' : World} {K : Nat} {U : Nat → Int} {On : Nat → Nat} (H : SlopesUp W K U On) (hb : Below W.heap.size W W') : SlopesUp W' K U On := fun q hq => ⟨below_cell hb (H q hq).1, below_cell hb (H q hq).2⟩
def upD (f : Int → Int → Int) (x y eye : Int) (nr : Nat → Nat) (k : Nat) : Int := bUp f x y (dX k) (dY k) eye (nr k)
def onD (f : Int → Int → Int) (x y eye : Int) (nr : Nat → Nat) (k : Nat) : Nat := best (rise f x y (dX k) (dY k) eye) (nr k)
def AroundOut (U : Nat → Int) (On : Nat → Nat) (W : World) (e : Ending) (W' : World) : Prop := ∃ K, e = .returned (.tuple #[.slice (some ⟨K, 0, none⟩) 8 8, .int .i64 0]) ∧ Below W.heap.size W W' ∧ SlopesUp W' K U On

set_option maxHeartbeats 4000000 in
set_option maxRecDepth 100000 in
theorem around_bad (g : Nat) (F : Nat → Prop) (w h x y hi : Int) (f : Int → Int → Int) (W : World) (H : GridAt W g F w h f) (hf : inG w h x y → -2147483648 ≤ f x y ∧ f x y ≤ 2147483647) (hc : mayC w h x y hi ≠ 0) :
    Calls Tryd.prog 12 #[.pointer (some ⟨g, 0, none⟩), .agg #[.int .i64 x, .int .i64 y], .int .i64 hi] W fun e W' => e = .returned (.tuple #[.slice none 0 0, .int .i64 (mayC w h x y hi)]) ∧ Below W.heap.size W W' := by
  have hcb : (mayC w h x y hi != 0) = true := by simp [hc]
  clear hc
  go_enter Tryd.func12, Tryd.ntmps12
  go_wp2_with fail
  have n_B := (below_alloc1 W (.cells #[.int .i64 x, .int .i64 y] 24))
  have n_0 : (W.alloc (.cells #[.int .i64 x, .int .i64 y] 24)).heap[W.heap.size]? = some (.cells #[.int .i64 x, .int .i64 y] 24) := (blk_new_at (W := W) (o := .cells #[.int .i64 x, .int .i64 y] 24) (by simp))
  obtain ⟨w1, hw1⟩ : ∃ w1, (W.alloc (.cells #[.int .i64 x, .int .i64 y] 24)) = w1 := ⟨_, rfl⟩
  rw [hw1] at n_0 n_B ⊢
  clear hw1
  refine (hor_check_any g F w h x y hi f _ (H.below n_B) hf).mono ?_
  rintro e w2 ⟨rfl, hb⟩
  have hB := below_next n_B hb
  go_wp2_with fail
  go_ret2
  exact ⟨rfl, hB⟩

set_option maxHeartbeats 4000000 in
set_option maxRecDepth 100000 in
theorem around_ok (g : Nat) (F : Nat → Prop) (w h x y hi : Int) (nr : Nat → Nat) (f : Int → Int → Int) (W : World) (H : GridAt W g F w h f) (hmay : ∀ x y, inG w h x y → -2147483648 ≤ f x y ∧ f x y ≤ 2147483647) (hst : StepsAt W) (hc : mayC w h x y hi = 0)
    (hr : ∀ k, k < 8 → Run w h x y (dX k) (dY k) (nr k)) :
    Calls Tryd.prog 12 #[.pointer (some ⟨g, 0, none⟩), .agg #[.int .i64 x, .int .i64 y], .int .i64 hi] W (AroundOut (upD f x y (f x y + hi) nr) (onD f x y (f x y + hi) nr) W) := by
  have hin := (mayC_0.1 hc).1
  have HMAY := Lib.hid hmay
  have HC := Lib.hid hc
  have HR := Lib.hid hr
  have hchk := fun W H => hor_check_any g F w h x y hi f W H (hmay x y)
  rw [hc] at hchk
  have HCHK := Lib.hid hchk
  clear hin hmay hc hr hchk
  obtain ⟨U, hU⟩ : ∃ U, upD f x y (f x y + hi) nr = U := ⟨_, rfl⟩
  obtain ⟨On, hOn⟩ : ∃ On, onD f x y (f x y + hi) nr = On := ⟨_, rfl⟩
  rw [hU, hOn]
  have HU := Lib.hid (And.intro hU hOn)
  clear hU hOn
  go_enter Tryd.func12, Tryd.ntmps12
  go_wp2_with fail
  have n_B := (below_alloc1 W (.cells #[.int .i64 x, .int .i64 y] 24))
  have n_0 : (W.alloc (.cells #[.int .i64 x, .int .i64 y] 24)).heap[W.heap.size]? = some (.cells #[.int .i64 x, .int .i64 y] 24) := (blk_new_at (W := W) (o := .cells #[.int .i64 x, .int .i64 y] 24) (by simp))
  obtain ⟨w1, hw1⟩ : ∃ w1, (W.alloc (.cells #[.int .i64 x, .int .i64 y] 24)) = w1 := ⟨_, rfl⟩
  rw [hw1] at n_0 n_B ⊢
  clear hw1
  refine (HCHK.out _ (H.below n_B)).mono ?_
  rintro e w2 ⟨rfl, hb⟩
  have n0 := below_blk hb n_0
  have hB := below_next n_B hb
  have HG2 := Lib.hid (H.below hB)
  have hst2 := Lib.hid (hst.below hB)
  clear hb n_B n_0 HCHK H hst
  go_wp2_with (at_make; refine make_cells rfl (.const (.int .i64 8)) (.const (.int .i64 8)) 43 rfl 34 (.agg #[.int .i64 0, .int .i64 0]) 2 16 Tryd.underlying43 info_Slope rfl 8 rfl rfl (by omega) (by omega) ?_)
  intro cs0 hcs0
  have nK := blk_new w2 (.cells cs0 34)
  have hbA := below_alloc1 w2 (.cells cs0 34)
  obtain ⟨w3, hw3⟩ : ∃ w3, w2.alloc (.cells cs0 34) = w3 := ⟨_, rfl⟩
  obtain ⟨K, hK⟩ : ∃ K, w2.heap.size = K := ⟨_, rfl⟩
  have hnK : W.heap.size ≠ K := by have := blk_lt n0; omega
  have hWK : Hid (W.heap.size ≤ K) := by
    show W.heap.size ≤ K
    have := blk_lt n0; omega
  rw [hw3] at nK hbA ⊢
  rw [hK] at nK ⊢
  replace n0 := below_blk hbA n0
  have HG3 := Lib.hid (HG2.out.below hbA)
  have hst3 := Lib.hid (hst2.out.below hbA)
  have HFK : Hid (∀ t, F t → t ≠ K) := fun t ht e => by have := HG2.out.lt t ht; omega
  have hB3 := below_next hB hbA
  have h0K : (0 : Nat) ≠ K := by
    have := World.block_lt_of_cell? w2 _ (hst2.out 0 (by omega)).1
    simp at this
    omega
  clear hw3 hK hbA HG2 hst2 hB
  go_wp2_with fail
  go_loopg [25] 8 (fun q v25 wr => ∃ (j : Nat) (cs : Array Value), Hid (j + q = 8) ∧ v25 = .int .i64 (j : Int) ∧ Mod (fun k => k = K) w3 wr ∧ wr.heap[K]? = some (.cells cs 34 (0, 0)) ∧ Hid (cs.size = 16 ∧ ∀ q, q < j → cs[q * 2]? = some (.int .i64 (U q)) ∧ cs[q * 2 + 1]? = some (.int .i64 ((On q : Nat) : Int))))
  case atStart => exact ⟨0, cs0, Nat.zero_add _, rfl, Mod.refl _ _, nK, hcs0, fun q hq => by omega⟩
  case round =>
    clear nK hcs0 cs0
    obtain ⟨j, cs, hj, rfl, hmod, nK, HCS⟩ := hrel
    cases gk with
    | zero =>
      have ej : j = 8 := hj.out
      subst ej
      go_wp2_with fail
      go_ret2
      exact ⟨K, rfl, hB3.trans (hmod.below hB3.size (fun k hk => by have := hWK.out; omega)), fun q hq => ⟨(blk_cell nK _).trans (HCS.out.2 q hq).1, (blk_cell nK _).trans (HCS.out.2 q hq).2⟩⟩
    | succ m =>
      have hj8 : j < 8 := by have := hj.out; omega
      have ht : decide (j < 8) = true := decide_eq_true hj8
      have ht2 : decide ((j : Int) < 8) = true := decide_eq_true (by omega)
      have n0r := hmod.blk n0 hnK
      have HGr := HG3.out.mod hmod HFK.out
      have hstr : StepsAt wr := fun k hk => ⟨hmod.cell (hst3.out k hk).1 h0K, hmod.cell (hst3.out k hk).2 h0K⟩
      have i_0 := cells_w n0r 0 rfl
      have i_1 := cells_w n0r 1 rfl
      go_wp2_with fail
      refine (hor_steep_ok g F w h x y hi j (nr j) f wr HGr HMAY.out hstr HC.out hj8 (HR.out j hj8)).mono ?_
      unfold BestOut
      have e1 : bUp f x y (dX j) (dY j) (f x y + hi) (nr j) = U j := by rw [← HU.out.1]; rfl
      have e2 : best (rise f x y (dX j) (dY j) (f x y + hi)) (nr j) = On j := by rw [← HU.out.2]; rfl
      rw [e1, e2]
      clear e1 e2
      rintro e w4 ⟨rfl, hb⟩
      have nK4 := below_blk hb nK
      have hmod4 := hmod.then_below hb
      clear hb nK n0r HGr hstr hmod i_0 i_1
      obtain ⟨o1, ho1⟩ : ∃ v, cs[j * 2]? = some v := ⟨cs[j * 2]'(by have := HCS.out.1; omega), Array.getElem?_eq_getElem _⟩
      obtain ⟨o2, ho2⟩ : ∃ v, cs[j * 2 + 1]? = some v := ⟨cs[j * 2 + 1]'(by have := HCS.out.1; omega), Array.getElem?_eq_getElem _⟩
      have c1 := cells_w nK4 (j * 2) ho1
      have c2 := cells_w nK4 (j * 2 + 1) ho2
      have z1 := blk_frozen nK4 (j * 2)
      have z2 := blk_frozen nK4 (j * 2 + 1)
      have kk : (j : Int) < 8 := by omega
      clear ho1 ho2
      go_wp2_with fail
      go_roundg m
      case measure => omega
      case rel =>
        refine ⟨j + 1, _, by have := hj.out; exact (show j + 1 + m = 8 by omega), congrArg (Value.int .i64) (by push_cast; omega), (hmod4.setCell (p := ⟨K, j * 2, none⟩) (.inl rfl) _).setCell (p := ⟨K, j * 2 + 1, none⟩) (.inl rfl) _, blk_set (blk_set nK4 _ _) _ _, ?_⟩
        refine ⟨by simp only [Array.size_setIfInBounds]; exact HCS.out.1, fun q hq => ?_⟩
        have hsz := HCS.out.1
        by_cases e : q = j
        · subst e
          constructor
          · rw [Array.getElem?_setIfInBounds_ne (by omega), Array.getElem?_setIfInBounds_self_of_lt (by omega)]
          · rw [Array.getElem?_setIfInBounds_self_of_lt (by simp only [Array.size_setIfInBounds]; omega)]
        · rw [Array.getElem?_setIfInBounds_ne (by omega), Array.getElem?_setIfInBounds_ne (by omega), Array.getElem?_setIfInBounds_ne (by omega), Array.getElem?_setIfInBounds_ne (by omega)]
          exact HCS.out.2 q (by omega)

set_option maxHeartbeats 4000000 in
set_option maxRecDepth 100000 in
theorem open_bad (g : Nat) (F : Nat → Prop) (w h x y hi : Int) (f : Int → Int → Int) (W : World) (H : GridAt W g F w h f) (hf : inG w h x y → -2147483648 ≤ f x y ∧ f x y ≤ 2147483647) (hc : mayC w h x y hi ≠ 0) :
    Calls Tryd.prog 13 #[.pointer (some ⟨g, 0, none⟩), .agg #[.int .i64 x, .int .i64 y], .int .i64 hi] W fun e W' => e = .returned (.tuple #[.int .i64 0, .int .i64 (mayC w h x y hi)]) ∧ Below W.heap.size W W' := by
  go_enter Tryd.func13, Tryd.ntmps13
  go_wp2_with fail
  have n_B := (below_alloc1 W (.cells #[.int .i64 x, .int .i64 y] 24))
  have n_0 : (W.alloc (.cells #[.int .i64 x, .int .i64 y] 24)).heap[W.heap.size]? = some (.cells #[.int .i64 x, .int .i64 y] 24) := (blk_new_at (W := W) (o := .cells #[.int .i64 x, .int .i64 y] 24) (by simp))
  obtain ⟨w1, hw1⟩ : ∃ w1, (W.alloc (.cells #[.int .i64 x, .int .i64 y] 24)) = w1 := ⟨_, rfl⟩
  rw [hw1] at n_0 n_B ⊢
  clear hw1
  refine (around_bad g F w h x y hi f _ (H.below n_B) hf hc).mono ?_
  rintro e w2 ⟨rfl, hb⟩
  have hB := below_next n_B hb
  go_wp2_with fail
  go_loopg [10, 22] 0 (fun q v10 v22 wr => v10 = .int .i64 0 ∧ v22 = .int .i64 0 ∧ w2 = wr)
  case atStart => exact ⟨rfl, rfl, rfl⟩
  case round =>
    obtain ⟨rfl, rfl, rfl⟩ := hrel
    go_wp2_with fail
    go_ret2
    exact ⟨rfl, hB⟩

set_option maxHeartbeats 4000000 in
set_option maxRecDepth 100000 in
theorem open_ok (g : Nat) (F : Nat → Prop) (w h x y hi : Int) (nr : Nat → Nat) (f : Int → Int → Int) (W : World) (H : GridAt W g F w h f) (hmay : ∀ x y, inG w h x y → -2147483648 ≤ f x y ∧ f x y ≤ 2147483647) (hst : StepsAt W) (hc : mayC w h x y hi = 0)
    (hr : ∀ k, k < 8 → Run w h x y (dX k) (dY k) (nr k)) :
    Calls Tryd.prog 13 #[.pointer (some ⟨g, 0, none⟩), .agg #[.int .i64 x, .int .i64 y], .int .i64 hi] W fun e W' => e = .returned (.tuple #[.int .i64 (cntU (upD f x y (f x y + hi) nr) 8), .int .i64 0]) ∧ Below W.heap.size W W' := by
  go_enter Tryd.func13, Tryd.ntmps13
  go_wp2_with fail
  have n_B := (below_alloc1 W (.cells #[.int .i64 x, .int .i64 y] 24))
  have n_0 : (W.alloc (.cells #[.int .i64 x, .int .i64 y] 24)).heap[W.heap.size]? = some (.cells #[.int .i64 x, .int .i64 y] 24) := (blk_new_at (W := W) (o := .cells #[.int .i64 x, .int .i64 y] 24) (by simp))
  obtain ⟨w1, hw1⟩ : ∃ w1, (W.alloc (.cells #[.int .i64 x, .int .i64 y] 24)) = w1 := ⟨_, rfl⟩
  rw [hw1] at n_0 n_B ⊢
  clear hw1
  refine (around_ok g F w h x y hi nr f _ (H.below n_B) hmay (hst.below n_B) hc hr).mono ?_
  obtain ⟨U, hU⟩ : ∃ U, upD f x y (f x y + hi) nr = U := ⟨_, rfl⟩
  obtain ⟨On, hOn⟩ : ∃ On, onD f x y (f x y + hi) nr = On := ⟨_, rfl⟩
  rw [hU, hOn]
  rintro e w2 ⟨K, rfl, hb, hS⟩
  have hB := below_next n_B hb
  have HS := Lib.hid hS
  have HU := Lib.hid hU
  clear hb hS n_B n_0 H hst hc hr hmay hU hOn
  go_wp2_with fail
  go_loopg [10, 22] 8 (fun q v10 v22 wr => ∃ j : Nat, Hid (j + q = 8) ∧ v10 = .int .i64 (cntU U j) ∧ v22 = .int .i64 (j : Int) ∧ Below w2.heap.size w2 wr)
  case atStart => exact ⟨0, Nat.zero_add _, rfl, rfl, Below.refl _ _⟩
  case round =>
    obtain ⟨j, hj, rfl, rfl, hbr⟩ := hrel
    cases gk with
    | zero =>
      have ej : j = 8 := hj.out
      subst ej
      go_wp2_with fail
      go_ret2
      exact ⟨by rw [HU.out]; rfl, below_next hB hbr⟩
    | succ m =>
      have hj8 : j < 8 := by have := hj.out; omega
      have ht : decide (j < 8) = true := decide_eq_true hj8
      have ht2 : decide ((j : Int) < 8) = true := decide_eq_true (by omega)
      have kk : (j : Int) < 8 := by omega
      obtain ⟨c1, c2⟩ := (HS.out.below hbr) j hj8
      have hcb := cntU_bd U j
      have wc : wrap64 (cntU U j + 1) = cntU U j + 1 := wrap64_id (by omega) (by omega)
      by_cases hu : U j ≤ 0
      · have tu := decide_eq_true hu
        have HE := Lib.hid (cntU_yes hu)
        clear hu
        go_wp2_with fail
        go_roundg m
        case measure => omega
        case rel => exact ⟨j + 1, by have := hj.out; exact (show j + 1 + m = 8 by omega), by rw [HE.out], congrArg (Value.int .i64) (by push_cast; omega), below_alloc' hbr _⟩
      · have tu := decide_eq_false hu
        have HE := Lib.hid (cntU_no hu)
        clear hu
        go_wp2_with fail
        go_roundg m
        case measure => omega
        case rel => exact ⟨j + 1, by have := hj.out; exact (show j + 1 + m = 8 by omega), by rw [HE.out], congrArg (Value.int .i64) (by push_cast; omega), below_alloc' hbr _⟩
end Go.Proofs.YtcomnpmkedabeaaDoor

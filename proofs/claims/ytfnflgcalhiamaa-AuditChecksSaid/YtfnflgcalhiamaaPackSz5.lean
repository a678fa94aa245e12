/- Texts of this claim, joined: SlabFill. -/
import Derived.Test.YtfnflgcalhiamaaPackSz4
/- slab.Fill: a rectangle's value. -/
set_option linter.unusedVariables false
set_option linter.unusedSimpArgs false
namespace Go.Proofs.Ytfnflgcalhiamaa
open Go.RowKit

/-- What a land's value is, as the two looks into it tell it. -/
structure Looked (c : Value) (o : Int) (k : Bool) : Prop where
  run : ∀ w, (Instr.typeAssert c 130 128 true).run Try.prog w = .ok (.tuple #[.int .i32 o, .bool k]) w
theorem looked (W : World) (F : Nat → Prop) (w h : Int) (f : Int → Int → Int) (c : Value) (H : LandAt W F w h f c) :
    ∃ o k, Looked c o k ∧ -2147483648 ≤ o ∧ o ≤ 2147483647 ∧ (k = true → ∀ x y, 0 ≤ x → x < w → 0 ≤ y → y < h → f x y = o) := by
  rcases H with ⟨v, rfl, hv1, hv2, hv⟩ | ⟨k, n, cap, cs, rfl, h2⟩
  · exact ⟨v, true, ⟨fun w => assert_ff v w⟩, hv1, hv2, fun _ => hv⟩
  · exact ⟨0, false, ⟨fun w => assert_rf _ _ _ w⟩, by omega, by omega, fun h => by cases h⟩

/-- Inside a rectangle? -/
def inR (x0 y0 x1 y1 x y : Int) : Prop := x0 ≤ x ∧ x ≤ x1 ∧ y0 ≤ y ∧ y ≤ y1
instance (x0 y0 x1 y1 x y : Int) : Decidable (inR x0 y0 x1 y1 x y) := by unfold inR; infer_instance
/-- A function, turned in a rectangle. -/
def fillF (f : Int → Int → Int) (x0 y0 x1 y1 v : Int) : Int → Int → Int := fun x y => if inR x0 y0 x1 y1 x y then v else f x y

theorem SlabAt.flat {W : World} {b : Nat} {w h v : Int} {f : Int → Int → Int} (w1 : 1 ≤ w) (w2 : w ≤ 16) (h1 : 1 ≤ h) (h2 : h ≤ 16) (v1 : -2147483648 ≤ v) (v2 : v ≤ 2147483647) {F : Nat → Prop} (hF : F b) (hlt : ∀ k, F k → k < W.heap.size)
    (hb : W.heap[b]? = some (.cells #[.int .i64 w, .int .i64 h, .iface 128 (.int .i32 v)] 132 (0, 0))) (hf : ∀ x y, 0 ≤ x → x < w → 0 ≤ y → y < h → f x y = v) : SlabAt W b F w h f :=
  ⟨w1, w2, h1, h2, hF, hlt, fun x y a b c d => by rw [hf x y a b c d]; exact ⟨v1, v2⟩, _, hb, .inl ⟨v, rfl, v1, v2, hf⟩⟩

/-- A rectangle that has as many cells as all has all. -/
theorem full_rect {x0 y0 x1 y1 w h x y : Int} (a0 : 0 ≤ x0) (a1 : x0 ≤ x1) (a2 : x1 < w) (a3 : 0 ≤ y0) (a4 : y0 ≤ y1) (a5 : y1 < h) (har : (x1 - x0 + 1) * (y1 - y0 + 1) = w * h) (b0 : 0 ≤ x) (b1 : x < w) (b2 : 0 ≤ y) (b3 : y < h) : inR x0 y0 x1 y1 x y := by
  have e1 : x1 - x0 + 1 = w := by
    by_cases hlt : x1 - x0 + 1 < w
    · exfalso
      have q1 := Int.mul_le_mul_of_nonneg_right (show x1 - x0 + 1 + 1 ≤ w by omega) (show 0 ≤ h by omega)
      have q2 := Int.mul_le_mul_of_nonneg_left (show y1 - y0 + 1 ≤ h by omega) (show 0 ≤ x1 - x0 + 1 by omega)
      rw [Int.add_mul] at q1
      omega
    · omega
  have e2 : y1 - y0 + 1 = h := by
    rw [e1] at har
    exact Int.eq_of_mul_eq_mul_left (by omega) har
  unfold inR
  omega

/-- A function, turned in a rectangle up to a place. -/
def partF (f : Int → Int → Int) (x0 y0 x1 y1 v yc xc : Int) : Int → Int → Int := fun x y => if inR x0 y0 x1 y1 x y ∧ (y < yc ∨ y = yc ∧ x < xc) then v else f x y
/-- The row at block k has a function's values; nothing else has turned. -/
def RowIs (w5 : World) (k n : Nat) (w h : Int) (g : Int → Int → Int) (wr : World) : Prop :=
  Mod (fun i => i = k) w5 wr ∧ ∃ cs, wr.heap[k]? = some (.cells cs 21 (0, 0)) ∧ n ≤ cs.size ∧ ∀ x y, 0 ≤ x → x < w → 0 ≤ y → y < h → cs[(y * w + x).toNat]? = some (.int .i32 (g x y))
theorem RowIs.congr {w5 wr : World} {k n : Nat} {w h : Int} {g g' : Int → Int → Int} (H : RowIs w5 k n w h g wr) (hg : ∀ x y, 0 ≤ x → x < w → 0 ≤ y → y < h → g' x y = g x y) : RowIs w5 k n w h g' wr := by
  obtain ⟨hm, cs, h1, h2, h3⟩ := H
  exact ⟨hm, cs, h1, h2, fun x y a b c d => by rw [hg x y a b c d]; exact h3 x y a b c d⟩
/-- What a filled slab is. -/
def SlabFilled (b : Nat) (F : Nat → Prop) (w h : Int) (f : Int → Int → Int) (W : World) (e : Ending) (W' : World) : Prop :=
  ∃ F', e = .returned (.int .i64 0) ∧ Mod F W W' ∧ (∀ k, F' k → F k ∨ W.heap.size ≤ k) ∧ SlabAt W' b F' w h f

set_option maxHeartbeats 2000000 in
set_option maxRecDepth 100000 in
theorem slab_Fill_ok (b : Nat) (F : Nat → Prop) (w h x0 y0 x1 y1 v : Int) (f : Int → Int → Int) (W : World) (H : SlabAt W b F w h f) (a0 : 0 ≤ x0) (a1 : x0 ≤ x1) (a2 : x1 < w) (a3 : 0 ≤ y0) (a4 : y0 ≤ y1) (a5 : y1 < h) (v1 : -2147483648 ≤ v) (v2 : v ≤ 2147483647) :
    Calls Try.prog 66 #[.pointer (some ⟨b, 0, none⟩), .agg #[.int .i64 x0, .int .i64 y0, .int .i64 x1, .int .i64 y1], .int .i64 v] W (SlabFilled b F w h (fillF f x0 y0 x1 y1 v) W) := by
  obtain ⟨c, hb, hl⟩ := H.blk
  have w1 := H.w1
  have w2 := H.w2
  have h1 := H.h1
  have h2 := H.h2
  have hv := wrap_i32 v1 v2
  obtain ⟨o, q, hq, ho1, ho2, ho⟩ := looked _ _ _ _ _ _ hl
  have hrun := hq.run
  clear hq hl
  go_enter Try.func66, Try.ntmps66
  go_wp2_with fail
  refine (slab_check_any b w h _ _ _ _ _ _ (below_blk (below_alloc1 _ _) hb) w1 w2 h1 h2).mono ?_
  rw [withinC_ok.2 ⟨a0, a1, a2, a3, a4, a5⟩]
  rintro e w1' ⟨rfl, hb1⟩
  have hB := below_next (below_alloc1 _ _) hb1
  have n0 := below_blk hB hb
  have n1 := below_blk hb1 (blk_new _ _)
  clear hb1
  have k_0 := cells_w n0 0 rfl
  have k_1 := cells_w n0 1 rfl
  have k_2 := cells_w n0 2 rfl
  go_wp2_with fail
  refine (slab_may_yes _ _ v1 v2).mono ?_
  rintro e w' ⟨rfl, rfl⟩
  go_wp2_with fail
  clear k_0 k_1 k_2
  have hm := mul_bd (A := 16) (B := 16) (show 0 ≤ w by omega) w2 (show 0 ≤ h by omega) h2
  obtain ⟨hm0, hm1⟩ := hm
  have hw := wrap64_id (x := w * h) (by omega) (by omega)
  have k_0 := cells_q n0 0 rfl
  have k_1 := cells_q n0 1 rfl
  have k_2 := cells_q n0 2 rfl
  have j_0 := cells_q n1 0 rfl
  have j_1 := cells_q n1 1 rfl
  have j_2 := cells_q n1 2 rfl
  have j_3 := cells_q n1 3 rfl
  by_cases hqv : q = true ∧ o = v
  · obtain ⟨rfl, rfl⟩ := hqv
    have hov : (o == o) = true := by simp
    have hf := ho rfl
    have Hf := Lib.hid hf
    clear hf ho
    refine wp_quiet (by kernel_rfl) (by kernel_rfl) ?_
    repeat (go_big_quiet_step ((first | fail)))
    refine wpQuiet_nil ?_
    intro w3 hb3
    clear k_0 k_1 k_2 j_0 j_1 j_2 j_3
    have n3 := below_blk hb3 n0
    have hB3 := below_next hB hb3
    have z2 := blk_frozen n3 2
    have i_0 := cells_w n3 0 rfl
    have i_1 := cells_w n3 1 rfl
    have i_2 := cells_w n3 2 rfl
    go_wp2_with fail
    go_ret
    refine ⟨F, rfl, (Mod.of_below hB3).setCell (.inl H.own) _, fun k hk => .inl hk, SlabAt.flat w1 w2 h1 h2 v1 v2 H.own (fun k hk => ?_) (blk_set n3 2 _) ?_⟩
    · have := H.lt k hk
      have := hB3.size
      simp [World.setCell]
      omega
    · intro x y b0 b1 b2 b3
      unfold fillF
      split
      · rfl
      · exact Hf.out x y b0 b1 b2 b3
  · by_cases har : (x1 - x0 + 1) * (y1 - y0 + 1) = w * h
    · have hare : ((x1 - x0 + 1) * (y1 - y0 + 1) == w * h) = true := by simpa using har
      have Har := Lib.hid har
      clear har
      cases q with
      | true =>
        have hov : (o == v) = false := by simpa using hqv
        clear hqv
        refine wp_quiet (by kernel_rfl) (by kernel_rfl) ?_
        repeat (go_big_quiet_step ((first | (go_at_call 50; exact Calls.quiet (area_ok _ _ _ _ _ a0 a1 (by omega) a3 a4 (by omega))))))
        refine wpQuiet_nil ?_
        intro w3 hb3
        clear k_0 k_1 k_2 j_0 j_1 j_2 j_3
        have n3 := below_blk hb3 n0
        have hB3 := below_next hB hb3
        have z2 := blk_frozen n3 2
        have i_0 := cells_w n3 0 rfl
        have i_1 := cells_w n3 1 rfl
        have i_2 := cells_w n3 2 rfl
        go_wp2_with fail
        go_ret
        refine ⟨F, rfl, (Mod.of_below hB3).setCell (.inl H.own) _, fun k hk => .inl hk, SlabAt.flat w1 w2 h1 h2 v1 v2 H.own (fun k hk => ?_) (blk_set n3 2 _) ?_⟩
        · have := H.lt k hk
          have := hB3.size
          simp [World.setCell]
          omega
        · intro x y b0 b1 b2 b3
          unfold fillF
          rw [if_pos]
          exact full_rect a0 a1 a2 a3 a4 a5 Har.out b0 b1 b2 b3
      | false =>
        clear hqv
        refine wp_quiet (by kernel_rfl) (by kernel_rfl) ?_
        repeat (go_big_quiet_step ((first | (go_at_call 50; exact Calls.quiet (area_ok _ _ _ _ _ a0 a1 (by omega) a3 a4 (by omega))))))
        refine wpQuiet_nil ?_
        intro w3 hb3
        clear k_0 k_1 k_2 j_0 j_1 j_2 j_3
        have n3 := below_blk hb3 n0
        have hB3 := below_next hB hb3
        have z2 := blk_frozen n3 2
        have i_0 := cells_w n3 0 rfl
        have i_1 := cells_w n3 1 rfl
        have i_2 := cells_w n3 2 rfl
        go_wp2_with fail
        go_ret
        refine ⟨F, rfl, (Mod.of_below hB3).setCell (.inl H.own) _, fun k hk => .inl hk, SlabAt.flat w1 w2 h1 h2 v1 v2 H.own (fun k hk => ?_) (blk_set n3 2 _) ?_⟩
        · have := H.lt k hk
          have := hB3.size
          simp [World.setCell]
          omega
        · intro x y b0 b1 b2 b3
          unfold fillF
          rw [if_pos]
          exact full_rect a0 a1 a2 a3 a4 a5 Har.out b0 b1 b2 b3
    · have hare : ((x1 - x0 + 1) * (y1 - y0 + 1) == w * h) = false := by simpa using har
      clear har
      cases q with
      | true =>
        have hov : (o == v) = false := by simpa using hqv
        clear hqv
        refine wp_quiet (by kernel_rfl) (by kernel_rfl) ?_
        repeat (go_big_quiet_step ((first | (go_at_call 50; exact Calls.quiet (area_ok _ _ _ _ _ a0 a1 (by omega) a3 a4 (by omega))))))
        refine wpQuiet_nil ?_
        intro w3 hb3
        clear k_0 k_1 k_2 j_0 j_1 j_2 j_3
        have hB3 := below_next hB hb3
        have n1 := below_blk hb3 n1
        clear n0 hb3 hrun hB
        go_wp2_with fail
        refine (slab_rough_ok b F w h f _ (H.below hB3)).mono ?_
        rintro e w4 ⟨k, n, cap, cs, rfl, hmod, hk, R⟩
        have hs3 := hB3.size
        have hs4 := hmod.size
        have hkl := R.lt k (.inr rfl)
        have hbW := H.lt b H.own
        have hFW : ¬ F W.heap.size := fun h => by have := H.lt _ h; omega
        have hl1 := blk_lt n1
        obtain ⟨w5, hw5⟩ : ∃ x, w4.alloc (.cells #[.slice (some ⟨k, 0, none⟩) n cap] 138) = x := ⟨_, rfl⟩
        have hB5 : Below w4.heap.size w4 w5 := by rw [← hw5]; exact below_alloc1 _ _
        have hs5 : w5.heap.size = w4.heap.size + 1 := by rw [← hw5]; exact alloc_size _ _
        have m0 := below_blk hB5 R.slab
        have m1 := below_blk hB5 (hmod.blk n1 hFW)
        have m2 : w5.heap[w4.heap.size]? = some (.cells #[.slice (some ⟨k, 0, none⟩) n cap] 138 (0, 0)) := by rw [← hw5]; exact blk_new _ _
        have m3 := below_blk hB5 R.row
        have hM5 : Mod F W w5 := ((Mod.of_below (S := F) hB3).trans hmod (fun _ x => .inl x)).then_below hB5
        have kne : k ≠ W.heap.size := by
          rcases hk with h | h
          · have := H.lt _ h
            omega
          · omega
        have Hn := Lib.hid R.n_eq
        have Rc := Lib.hid R.cell
        have Rs := R.size
        have Rcap := R.cap_le
        have Rne := R.ne
        have RF : ∀ i, F i → i < w5.heap.size := fun i hi => by have := H.lt i hi; omega
        have RFH := Lib.hid RF
        clear RF n1 R hmod hB5 hFW
        have i_0 := cells_w m1 0 rfl
        have i_1 := cells_w m1 1 rfl
        have i_2 := cells_w m1 2 rfl
        have i_3 := cells_w m1 3 rfl
        go_wp2_with fail
        have hR0 : RowIs w5 k n w h (partF f x0 y0 x1 y1 v y0 x0) w5 := by
          refine ⟨Mod.refl _ _, cs, m3, Rs, fun x y b0 b1 b2 b3 => ?_⟩
          rw [Rc.out x y b0 b1 b2 b3]
          unfold partF
          rw [if_neg (by unfold inR; omega)]
        clear i_0 i_1 i_2 i_3 Rc
        go_loopg [11] (y1 + 1 - y0).toNat (fun q v11 wr => ∃ j : Nat, Hid ((j : Int) + q = y1 + 1 - y0) ∧ v11 = .int .i64 (y0 + j) ∧ RowIs w5 k n w h (partF f x0 y0 x1 y1 v (y0 + j) x0) wr)
        case atStart => exact ⟨0, (show _ = _ by omega), by simp, by simpa using hR0⟩
        case round =>
          clear hR0
          obtain ⟨j, hj, rfl, hR⟩ := hrel
          obtain ⟨hMr, cs2, p3, p4, p5⟩ := hR
          have P5 := Lib.hid p5
          clear p5
          have p0 := hMr.blk m0 (fun e => Rne e.symm)
          have p1 := hMr.blk m1 (fun e => kne e.symm)
          have p2 := hMr.blk m2 (by omega)
          cases gk with
          | zero =>
            have ht : decide (y0 + (j : Int) ≤ y1) = false := decide_eq_false (by have := hj.out; omega)
            have i_0 := cells_w p1 0 rfl
            have i_1 := cells_w p1 1 rfl
            have i_2 := cells_w p1 2 rfl
            have i_3 := cells_w p1 3 rfl
            have s_0 := cells_w p2 0 rfl
            go_wp2_with fail
            have hG : ∀ i, i < n → wr.cell? ⟨k, i, none⟩ = some (.int .i32 (lin (partF f x0 y0 x1 y1 v (y0 + j) x0) w i)) := by
              intro i hi
              rw [blk_cell p3 i]
              have hd := lin_at (w := w) (h := h) (i := i) (by omega) (by have := Hn.out; omega)
              have := P5.out _ _ hd.1 hd.2.1 hd.2.2.1 hd.2.2.2.1
              rw [hd.2.2.2.2] at this
              simpa [lin] using this
            have hkW : F k ∨ W.heap.size ≤ k := hk.imp id (fun h => Nat.le_trans hs3 h)
            have hbd : ∀ x y, 0 ≤ x → x < w → 0 ≤ y → y < h → -2147483648 ≤ fillF f x0 y0 x1 y1 v x y ∧ fillF f x0 y0 x1 y1 v x y ≤ 2147483647 := by
              intro x y b0 b1 b2 b3
              unfold fillF
              split
              · exact ⟨v1, v2⟩
              · exact H.bd x y b0 b1 b2 b3
            have hpf : ∀ x y, partF f x0 y0 x1 y1 v (y0 + j) x0 x y = fillF f x0 y0 x1 y1 v x y := by
              intro x y
              have := hj.out
              unfold partF fillF
              by_cases hin : inR x0 y0 x1 y1 x y
              · rw [if_pos hin, if_pos ⟨hin, by unfold inR at hin; omega⟩]
              · rw [if_neg hin, if_neg (fun h => hin h.1)]
            have hfin : ∀ x y, 0 ≤ x → x < w → 0 ≤ y → y < h → cs2[(y * w + x).toNat]? = some (.int .i32 (fillF f x0 y0 x1 y1 v x y)) := by
              intro x y b0 b1 b2 b3
              rw [P5.out x y b0 b1 b2 b3, hpf]
            have hnp : 0 < n := by have := Hn.out; have := idx_lt (x := 0) (y := 0) (w := w) (h := h) (by omega) (by omega) (by omega) (by omega); omega
            refine (containsf_any w4.heap.size k n cap _ wr hnp (by have := Hn.out; omega) s_0 hG).mono ?_
            rintro e w' ⟨r, rfl, hr, rfl⟩
            cases r with
            | true =>
              clear hr
              go_wp2_with fail
              go_ret
              refine ⟨fun i => F i ∨ i = k, rfl, hM5.trans hMr (fun i hi => by rw [hi]; exact hkW), fun i hi => hi.elim .inl (fun e => by rw [e]; exact hkW), w1, w2, h1, h2, .inl H.own, ?_, hbd, _, p0, .inr ⟨k, n, cap, cs2, rfl, ⟨.inr rfl, Rne⟩, blk_lt p3, Hn.out, Rcap, p3, hfin⟩⟩
              intro i hi
              rcases hi with hi | rfl
              · have := RFH.out i hi
                have := hMr.size
                omega
              · exact blk_lt p3
            | false =>
              have hc0 := hG 0 hnp
              have hn0 : (0 : Int) < (n : Int) := by omega
              have z0 := blk_frozen p0 2
              have t_0 := cells_w p0 0 rfl
              have t_1 := cells_w p0 1 rfl
              have t_2 := cells_w p0 2 rfl
              have hrH := Lib.hid hr
              clear hr
              go_wp2_with fail
              go_ret
              have hb00 := hbd 0 0 (by omega) (by omega) (by omega) (by omega)
              have hl0 : lin (partF f x0 y0 x1 y1 v (y0 + j) x0) w 0 = fillF f x0 y0 x1 y1 v 0 0 := by
                rw [← hpf]
                simp [lin]
              rw [← hl0] at hb00
              refine ⟨F, rfl, (hM5.trans hMr (fun i hi => by rw [hi]; exact hkW)).setCell (.inl H.own) _, fun i hi => .inl hi, SlabAt.flat w1 w2 h1 h2 hb00.1 hb00.2 H.own (fun i hi => ?_) (blk_set p0 2 _) ?_⟩
              · have := RFH.out i hi
                have := hMr.size
                simp [World.setCell]
                omega
              · intro x y b0 b1 b2 b3
                have hi := idx_lt b0 b1 b2 b3
                have e := hrH.out trivial (y * w + x).toNat (by have := Hn.out; omega)
                rw [lin_idx b0 b1 b2, hpf] at e
                exact e
          | succ q =>
            have ht : decide (y0 + (j : Int) ≤ y1) = true := decide_eq_true (by have := hj.out; omega)
            have hyj : y0 + (j : Int) ≤ y1 := of_decide_eq_true ht
            have hlo := idx_lt (x := 0) (y := y0 + j) (w := w) (h := h) (by omega) (by omega) (by omega) (by omega)
            have hhi := mul_bd (a := y0 + j + 1) (b := w) (A := h) (B := w) (by omega) (by omega) (by omega) (by omega)
            obtain ⟨lo, hlo1⟩ : ∃ lo : Nat, (lo : Int) = (y0 + j) * w := ⟨((y0 + j) * w).toNat, by omega⟩
            obtain ⟨hi, hhi1⟩ : ∃ hi : Nat, (hi : Int) = (y0 + j + 1) * w := ⟨((y0 + j + 1) * w).toNat, by omega⟩
            have hlh : hi = lo + w.toNat := by rw [Int.add_mul] at hhi1; omega
            have hln : lo < n := by have := Hn.out; omega
            have hhn : hi ≤ n := by have := Hn.out; rw [Int.mul_comm h w] at hhi; omega
            have wl : wrap64 ((y0 + j) * w) = (lo : Int) := by rw [hlo1]; exact wrap64_id (by omega) (by omega)
            have wh : wrap64 ((y0 + j + 1) * w) = (hi : Int) := by rw [hhi1]; exact wrap64_id (by have := Hn.out; omega) (by have := Hn.out; omega)
            have hlo0 : (0 : Int) ≤ (lo : Int) := by omega
            have hlh1 : (lo : Int) ≤ (hi : Int) := by omega
            have hhc : (hi : Int) ≤ (cap : Int) := by omega
            have hcl : ¬ cap = lo := by omega
            have HL := Lib.hid hlo1
            have HH := Lib.hid hlh
            clear hlo1 hhi1 hlh hlo hhi
            have i_0 := cells_w p1 0 rfl
            have i_1 := cells_w p1 1 rfl
            have i_2 := cells_w p1 2 rfl
            have i_3 := cells_w p1 3 rfl
            go_wp2_with fail
            clear i_0 i_1 i_2 i_3
            have s_0 := cells_q p2 0 rfl
            have t_0 := cells_q p0 0 rfl
            have t_1 := cells_q p0 1 rfl
            have t_2 := cells_q p0 2 rfl
            refine wp_quiet (by kernel_rfl) (by kernel_rfl) ?_
            repeat (go_big_quiet_step ((first | fail)))
            refine wpQuiet_nil ?_
            intro w6 hb6
            clear s_0 t_0 t_1 t_2 wl wh hcl
            have hM6 := hMr.then_below hb6
            have r0 := below_blk hb6 p0
            have r1 := below_blk hb6 p1
            have r3 := below_blk hb6 p3
            have hR6 : RowIs w5 k n w h (partF f x0 y0 x1 y1 v (y0 + j) x0) w6 := ⟨hM6, cs2, r3, p4, P5.out⟩
            have i_0 := cells_w r1 0 rfl
            have i_1 := cells_w r1 1 rfl
            have i_2 := cells_w r1 2 rfl
            have i_3 := cells_w r1 3 rfl
            go_wp2_with fail
            clear i_0 i_1 i_2 i_3 P5 p0 p1 p2 p3 hMr hM6 hb6 r0 r1 r3
            go_loopg [13] (x1 + 1 - x0).toNat (fun q2 v13 wi => ∃ i : Nat, Hid ((i : Int) + q2 = x1 + 1 - x0) ∧ v13 = .int .i64 (x0 + i) ∧ RowIs w5 k n w h (partF f x0 y0 x1 y1 v (y0 + j) (x0 + i)) wi)
            case atStart => exact ⟨0, (show _ = _ by omega), by simp, by simpa using hR6⟩
            case round =>
              clear hR6
              obtain ⟨i, hi2, rfl, hR⟩ := hrel
              obtain ⟨hMi, cs3, p3, p4b, p5⟩ := hR
              have P5 := Lib.hid p5
              clear p5
              have p1 := hMi.blk m1 (fun e => kne e.symm)
              have i_0 := cells_w p1 0 rfl
              have i_1 := cells_w p1 1 rfl
              have i_2 := cells_w p1 2 rfl
              have i_3 := cells_w p1 3 rfl
              cases gk with
              | zero =>
                have ht2 : decide (x0 + (i : Int) ≤ x1) = false := decide_eq_false (by have := hi2.out; omega)
                go_wp2_with fail
                go_roundg q
                case measure => omega
                case rel =>
                  refine ⟨j + 1, ?_, ?_, ?_⟩
                  · have := hj.out
                    exact (show ((j + 1 : Nat) : Int) + q = _ by omega)
                  · exact congrArg (Value.int .i64) (by omega)
                  · refine RowIs.congr ⟨hMi, cs3, p3, p4b, P5.out⟩ (fun x y b0 b1 b2 b3 => ?_)
                    have := hi2.out
                    unfold partF
                    by_cases hin : inR x0 y0 x1 y1 x y
                    · have hin2 := hin
                      unfold inR at hin2
                      by_cases hy : y < y0 + (j : Int) + 1
                      · rw [if_pos ⟨hin, by omega⟩, if_pos ⟨hin, by omega⟩]
                      · rw [if_neg (fun h => by omega), if_neg (fun h => by omega)]
                    · rw [if_neg (fun h => hin h.1), if_neg (fun h => hin h.1)]
              | succ q2 =>
                have ht2 : decide (x0 + (i : Int) ≤ x1) = true := decide_eq_true (by have := hi2.out; omega)
                have hxi : x0 + (i : Int) ≤ x1 := of_decide_eq_true ht2
                have hx0 : 0 ≤ x0 + (i : Int) := by omega
                have hx1 : x0 + (i : Int) < ((hi - lo : Nat) : Int) := by have := HH.out; omega
                have hoff : ((y0 + (j : Int)) * w + (x0 + (i : Int))).toNat = lo + (x0 + (i : Int)).toNat := by have := HL.out; omega
                have hcell := P5.out (x0 + i) (y0 + j) (by omega) (by omega) (by omega) (by omega)
                rw [hoff, ← blk_cell p3] at hcell
                have hfz := blk_frozen p3 (lo + (x0 + (i : Int)).toNat)
                have hbig : lo + (x0 + (i : Int)).toNat < cs3.size := by have := HH.out; omega
                have Ho := Lib.hid hoff
                clear hoff
                go_wp2_with fail
                go_roundg q2
                case measure => omega
                case rel =>
                  refine ⟨i + 1, ?_, ?_, hMi.setCell (.inl rfl) _, _, blk_set p3 _ _, by simpa using p4b, ?_⟩
                  · have := hi2.out
                    exact (show ((i + 1 : Nat) : Int) + q2 = _ by omega)
                  · exact congrArg (Value.int .i64) (by omega)
                  · intro x y b0 b1 b2 b3
                    have hne := Array.getElem?_setIfInBounds (xs := cs3) (i := lo + (x0 + (i : Int)).toNat) (a := Value.int .i32 v) (j := (y * w + x).toNat)
                    rw [hne]
                    by_cases he : x = x0 + (i : Int) ∧ y = y0 + (j : Int)
                    · obtain ⟨rfl, rfl⟩ := he
                      rw [if_pos Ho.out.symm, if_pos hbig]
                      unfold partF
                      rw [if_pos ⟨by unfold inR; omega, by omega⟩]
                    · rw [if_neg, P5.out x y b0 b1 b2 b3]
                      · unfold partF
                        by_cases hin : inR x0 y0 x1 y1 x y
                        · by_cases hlt : y < y0 + (j : Int) ∨ y = y0 + (j : Int) ∧ x < x0 + (i : Int)
                          · rw [if_pos ⟨hin, hlt⟩, if_pos ⟨hin, by omega⟩]
                          · rw [if_neg (fun h => hlt h.2), if_neg (fun h => hlt (by omega))]
                        · rw [if_neg (fun h => hin h.1), if_neg (fun h => hin h.1)]
                      · intro e
                        rw [← Ho.out] at e
                        exact he (idx_inj b0 b1 b2 (by omega) (by omega) (by omega) e.symm)
      | false =>
        clear hqv
        refine wp_quiet (by kernel_rfl) (by kernel_rfl) ?_
        repeat (go_big_quiet_step ((first | (go_at_call 50; exact Calls.quiet (area_ok _ _ _ _ _ a0 a1 (by omega) a3 a4 (by omega))))))
        refine wpQuiet_nil ?_
        intro w3 hb3
        clear k_0 k_1 k_2 j_0 j_1 j_2 j_3
        have hB3 := below_next hB hb3
        have n1 := below_blk hb3 n1
        clear n0 hb3 hrun hB
        go_wp2_with fail
        refine (slab_rough_ok b F w h f _ (H.below hB3)).mono ?_
        rintro e w4 ⟨k, n, cap, cs, rfl, hmod, hk, R⟩
        have hs3 := hB3.size
        have hs4 := hmod.size
        have hkl := R.lt k (.inr rfl)
        have hbW := H.lt b H.own
        have hFW : ¬ F W.heap.size := fun h => by have := H.lt _ h; omega
        have hl1 := blk_lt n1
        obtain ⟨w5, hw5⟩ : ∃ x, w4.alloc (.cells #[.slice (some ⟨k, 0, none⟩) n cap] 138) = x := ⟨_, rfl⟩
        have hB5 : Below w4.heap.size w4 w5 := by rw [← hw5]; exact below_alloc1 _ _
        have hs5 : w5.heap.size = w4.heap.size + 1 := by rw [← hw5]; exact alloc_size _ _
        have m0 := below_blk hB5 R.slab
        have m1 := below_blk hB5 (hmod.blk n1 hFW)
        have m2 : w5.heap[w4.heap.size]? = some (.cells #[.slice (some ⟨k, 0, none⟩) n cap] 138 (0, 0)) := by rw [← hw5]; exact blk_new _ _
        have m3 := below_blk hB5 R.row
        have hM5 : Mod F W w5 := ((Mod.of_below (S := F) hB3).trans hmod (fun _ x => .inl x)).then_below hB5
        have kne : k ≠ W.heap.size := by
          rcases hk with h | h
          · have := H.lt _ h
            omega
          · omega
        have Hn := Lib.hid R.n_eq
        have Rc := Lib.hid R.cell
        have Rs := R.size
        have Rcap := R.cap_le
        have Rne := R.ne
        have RF : ∀ i, F i → i < w5.heap.size := fun i hi => by have := H.lt i hi; omega
        have RFH := Lib.hid RF
        clear RF n1 R hmod hB5 hFW
        have i_0 := cells_w m1 0 rfl
        have i_1 := cells_w m1 1 rfl
        have i_2 := cells_w m1 2 rfl
        have i_3 := cells_w m1 3 rfl
        go_wp2_with fail
        have hR0 : RowIs w5 k n w h (partF f x0 y0 x1 y1 v y0 x0) w5 := by
          refine ⟨Mod.refl _ _, cs, m3, Rs, fun x y b0 b1 b2 b3 => ?_⟩
          rw [Rc.out x y b0 b1 b2 b3]
          unfold partF
          rw [if_neg (by unfold inR; omega)]
        clear i_0 i_1 i_2 i_3 Rc
        go_loopg [11] (y1 + 1 - y0).toNat (fun q v11 wr => ∃ j : Nat, Hid ((j : Int) + q = y1 + 1 - y0) ∧ v11 = .int .i64 (y0 + j) ∧ RowIs w5 k n w h (partF f x0 y0 x1 y1 v (y0 + j) x0) wr)
        case atStart => exact ⟨0, (show _ = _ by omega), by simp, by simpa using hR0⟩
        case round =>
          clear hR0
          obtain ⟨j, hj, rfl, hR⟩ := hrel
          obtain ⟨hMr, cs2, p3, p4, p5⟩ := hR
          have P5 := Lib.hid p5
          clear p5
          have p0 := hMr.blk m0 (fun e => Rne e.symm)
          have p1 := hMr.blk m1 (fun e => kne e.symm)
          have p2 := hMr.blk m2 (by omega)
          cases gk with
          | zero =>
            have ht : decide (y0 + (j : Int) ≤ y1) = false := decide_eq_false (by have := hj.out; omega)
            have i_0 := cells_w p1 0 rfl
            have i_1 := cells_w p1 1 rfl
            have i_2 := cells_w p1 2 rfl
            have i_3 := cells_w p1 3 rfl
            have s_0 := cells_w p2 0 rfl
            go_wp2_with fail
            have hG : ∀ i, i < n → wr.cell? ⟨k, i, none⟩ = some (.int .i32 (lin (partF f x0 y0 x1 y1 v (y0 + j) x0) w i)) := by
              intro i hi
              rw [blk_cell p3 i]
              have hd := lin_at (w := w) (h := h) (i := i) (by omega) (by have := Hn.out; omega)
              have := P5.out _ _ hd.1 hd.2.1 hd.2.2.1 hd.2.2.2.1
              rw [hd.2.2.2.2] at this
              simpa [lin] using this
            have hkW : F k ∨ W.heap.size ≤ k := hk.imp id (fun h => Nat.le_trans hs3 h)
            have hbd : ∀ x y, 0 ≤ x → x < w → 0 ≤ y → y < h → -2147483648 ≤ fillF f x0 y0 x1 y1 v x y ∧ fillF f x0 y0 x1 y1 v x y ≤ 2147483647 := by
              intro x y b0 b1 b2 b3
              unfold fillF
              split
              · exact ⟨v1, v2⟩
              · exact H.bd x y b0 b1 b2 b3
            have hpf : ∀ x y, partF f x0 y0 x1 y1 v (y0 + j) x0 x y = fillF f x0 y0 x1 y1 v x y := by
              intro x y
              have := hj.out
              unfold partF fillF
              by_cases hin : inR x0 y0 x1 y1 x y
              · rw [if_pos hin, if_pos ⟨hin, by unfold inR at hin; omega⟩]
              · rw [if_neg hin, if_neg (fun h => hin h.1)]
            have hfin : ∀ x y, 0 ≤ x → x < w → 0 ≤ y → y < h → cs2[(y * w + x).toNat]? = some (.int .i32 (fillF f x0 y0 x1 y1 v x y)) := by
              intro x y b0 b1 b2 b3
              rw [P5.out x y b0 b1 b2 b3, hpf]
            have hnp : 0 < n := by have := Hn.out; have := idx_lt (x := 0) (y := 0) (w := w) (h := h) (by omega) (by omega) (by omega) (by omega); omega
            refine (containsf_any w4.heap.size k n cap _ wr hnp (by have := Hn.out; omega) s_0 hG).mono ?_
            rintro e w' ⟨r, rfl, hr, rfl⟩
            cases r with
            | true =>
              clear hr
              go_wp2_with fail
              go_ret
              refine ⟨fun i => F i ∨ i = k, rfl, hM5.trans hMr (fun i hi => by rw [hi]; exact hkW), fun i hi => hi.elim .inl (fun e => by rw [e]; exact hkW), w1, w2, h1, h2, .inl H.own, ?_, hbd, _, p0, .inr ⟨k, n, cap, cs2, rfl, ⟨.inr rfl, Rne⟩, blk_lt p3, Hn.out, Rcap, p3, hfin⟩⟩
              intro i hi
              rcases hi with hi | rfl
              · have := RFH.out i hi
                have := hMr.size
                omega
              · exact blk_lt p3
            | false =>
              have hc0 := hG 0 hnp
              have hn0 : (0 : Int) < (n : Int) := by omega
              have z0 := blk_frozen p0 2
              have t_0 := cells_w p0 0 rfl
              have t_1 := cells_w p0 1 rfl
              have t_2 := cells_w p0 2 rfl
              have hrH := Lib.hid hr
              clear hr
              go_wp2_with fail
              go_ret
              have hb00 := hbd 0 0 (by omega) (by omega) (by omega) (by omega)
              have hl0 : lin (partF f x0 y0 x1 y1 v (y0 + j) x0) w 0 = fillF f x0 y0 x1 y1 v 0 0 := by
                rw [← hpf]
                simp [lin]
              rw [← hl0] at hb00
              refine ⟨F, rfl, (hM5.trans hMr (fun i hi => by rw [hi]; exact hkW)).setCell (.inl H.own) _, fun i hi => .inl hi, SlabAt.flat w1 w2 h1 h2 hb00.1 hb00.2 H.own (fun i hi => ?_) (blk_set p0 2 _) ?_⟩
              · have := RFH.out i hi
                have := hMr.size
                simp [World.setCell]
                omega
              · intro x y b0 b1 b2 b3
                have hi := idx_lt b0 b1 b2 b3
                have e := hrH.out trivial (y * w + x).toNat (by have := Hn.out; omega)
                rw [lin_idx b0 b1 b2, hpf] at e
                exact e
          | succ q =>
            have ht : decide (y0 + (j : Int) ≤ y1) = true := decide_eq_true (by have := hj.out; omega)
            have hyj : y0 + (j : Int) ≤ y1 := of_decide_eq_true ht
            have hlo := idx_lt (x := 0) (y := y0 + j) (w := w) (h := h) (by omega) (by omega) (by omega) (by omega)
            have hhi := mul_bd (a := y0 + j + 1) (b := w) (A := h) (B := w) (by omega) (by omega) (by omega) (by omega)
            obtain ⟨lo, hlo1⟩ : ∃ lo : Nat, (lo : Int) = (y0 + j) * w := ⟨((y0 + j) * w).toNat, by omega⟩
            obtain ⟨hi, hhi1⟩ : ∃ hi : Nat, (hi : Int) = (y0 + j + 1) * w := ⟨((y0 + j + 1) * w).toNat, by omega⟩
            have hlh : hi = lo + w.toNat := by rw [Int.add_mul] at hhi1; omega
            have hln : lo < n := by have := Hn.out; omega
            have hhn : hi ≤ n := by have := Hn.out; rw [Int.mul_comm h w] at hhi; omega
            have wl : wrap64 ((y0 + j) * w) = (lo : Int) := by rw [hlo1]; exact wrap64_id (by omega) (by omega)
            have wh : wrap64 ((y0 + j + 1) * w) = (hi : Int) := by rw [hhi1]; exact wrap64_id (by have := Hn.out; omega) (by have := Hn.out; omega)
            have hlo0 : (0 : Int) ≤ (lo : Int) := by omega
            have hlh1 : (lo : Int) ≤ (hi : Int) := by omega
            have hhc : (hi : Int) ≤ (cap : Int) := by omega
            have hcl : ¬ cap = lo := by omega
            have HL := Lib.hid hlo1
            have HH := Lib.hid hlh
            clear hlo1 hhi1 hlh hlo hhi
            have i_0 := cells_w p1 0 rfl
            have i_1 := cells_w p1 1 rfl
            have i_2 := cells_w p1 2 rfl
            have i_3 := cells_w p1 3 rfl
            go_wp2_with fail
            clear i_0 i_1 i_2 i_3
            have s_0 := cells_q p2 0 rfl
            have t_0 := cells_q p0 0 rfl
            have t_1 := cells_q p0 1 rfl
            have t_2 := cells_q p0 2 rfl
            refine wp_quiet (by kernel_rfl) (by kernel_rfl) ?_
            repeat (go_big_quiet_step ((first | fail)))
            refine wpQuiet_nil ?_
            intro w6 hb6
            clear s_0 t_0 t_1 t_2 wl wh hcl
            have hM6 := hMr.then_below hb6
            have r0 := below_blk hb6 p0
            have r1 := below_blk hb6 p1
            have r3 := below_blk hb6 p3
            have hR6 : RowIs w5 k n w h (partF f x0 y0 x1 y1 v (y0 + j) x0) w6 := ⟨hM6, cs2, r3, p4, P5.out⟩
            have i_0 := cells_w r1 0 rfl
            have i_1 := cells_w r1 1 rfl
            have i_2 := cells_w r1 2 rfl
            have i_3 := cells_w r1 3 rfl
            go_wp2_with fail
            clear i_0 i_1 i_2 i_3 P5 p0 p1 p2 p3 hMr hM6 hb6 r0 r1 r3
            go_loopg [13] (x1 + 1 - x0).toNat (fun q2 v13 wi => ∃ i : Nat, Hid ((i : Int) + q2 = x1 + 1 - x0) ∧ v13 = .int .i64 (x0 + i) ∧ RowIs w5 k n w h (partF f x0 y0 x1 y1 v (y0 + j) (x0 + i)) wi)
            case atStart => exact ⟨0, (show _ = _ by omega), by simp, by simpa using hR6⟩
            case round =>
              clear hR6
              obtain ⟨i, hi2, rfl, hR⟩ := hrel
              obtain ⟨hMi, cs3, p3, p4b, p5⟩ := hR
              have P5 := Lib.hid p5
              clear p5
              have p1 := hMi.blk m1 (fun e => kne e.symm)
              have i_0 := cells_w p1 0 rfl
              have i_1 := cells_w p1 1 rfl
              have i_2 := cells_w p1 2 rfl
              have i_3 := cells_w p1 3 rfl
              cases gk with
              | zero =>
                have ht2 : decide (x0 + (i : Int) ≤ x1) = false := decide_eq_false (by have := hi2.out; omega)
                go_wp2_with fail
                go_roundg q
                case measure => omega
                case rel =>
                  refine ⟨j + 1, ?_, ?_, ?_⟩
                  · have := hj.out
                    exact (show ((j + 1 : Nat) : Int) + q = _ by omega)
                  · exact congrArg (Value.int .i64) (by omega)
                  · refine RowIs.congr ⟨hMi, cs3, p3, p4b, P5.out⟩ (fun x y b0 b1 b2 b3 => ?_)
                    have := hi2.out
                    unfold partF
                    by_cases hin : inR x0 y0 x1 y1 x y
                    · have hin2 := hin
                      unfold inR at hin2
                      by_cases hy : y < y0 + (j : Int) + 1
                      · rw [if_pos ⟨hin, by omega⟩, if_pos ⟨hin, by omega⟩]
                      · rw [if_neg (fun h => by omega), if_neg (fun h => by omega)]
                    · rw [if_neg (fun h => hin h.1), if_neg (fun h => hin h.1)]
              | succ q2 =>
                have ht2 : decide (x0 + (i : Int) ≤ x1) = true := decide_eq_true (by have := hi2.out; omega)
                have hxi : x0 + (i : Int) ≤ x1 := of_decide_eq_true ht2
                have hx0 : 0 ≤ x0 + (i : Int) := by omega
                have hx1 : x0 + (i : Int) < ((hi - lo : Nat) : Int) := by have := HH.out; omega
                have hoff : ((y0 + (j : Int)) * w + (x0 + (i : Int))).toNat = lo + (x0 + (i : Int)).toNat := by have := HL.out; omega
                have hcell := P5.out (x0 + i) (y0 + j) (by omega) (by omega) (by omega) (by omega)
                rw [hoff, ← blk_cell p3] at hcell
                have hfz := blk_frozen p3 (lo + (x0 + (i : Int)).toNat)
                have hbig : lo + (x0 + (i : Int)).toNat < cs3.size := by have := HH.out; omega
                have Ho := Lib.hid hoff
                clear hoff
                go_wp2_with fail
                go_roundg q2
                case measure => omega
                case rel =>
                  refine ⟨i + 1, ?_, ?_, hMi.setCell (.inl rfl) _, _, blk_set p3 _ _, by simpa using p4b, ?_⟩
                  · have := hi2.out
                    exact (show ((i + 1 : Nat) : Int) + q2 = _ by omega)
                  · exact congrArg (Value.int .i64) (by omega)
                  · intro x y b0 b1 b2 b3
                    have hne := Array.getElem?_setIfInBounds (xs := cs3) (i := lo + (x0 + (i : Int)).toNat) (a := Value.int .i32 v) (j := (y * w + x).toNat)
                    rw [hne]
                    by_cases he : x = x0 + (i : Int) ∧ y = y0 + (j : Int)
                    · obtain ⟨rfl, rfl⟩ := he
                      rw [if_pos Ho.out.symm, if_pos hbig]
                      unfold partF
                      rw [if_pos ⟨by unfold inR; omega, by omega⟩]
                    · rw [if_neg, P5.out x y b0 b1 b2 b3]
                      · unfold partF
                        by_cases hin : inR x0 y0 x1 y1 x y
                        · by_cases hlt : y < y0 + (j : Int) ∨ y = y0 + (j : Int) ∧ x < x0 + (i : Int)
                          · rw [if_pos ⟨hin, hlt⟩, if_pos ⟨hin, by omega⟩]
                          · rw [if_neg (fun h => hlt h.2), if_neg (fun h => hlt (by omega))]
                        · rw [if_neg (fun h => hin h.1), if_neg (fun h => hin h.1)]
                      · intro e
                        rw [← Ho.out] at e
                        exact he (idx_inj b0 b1 b2 (by omega) (by omega) (by omega) e.symm)

theorem slab_Fill_value (b : Nat) (F : Nat → Prop) (w h x0 y0 x1 y1 v : Int) (f : Int → Int → Int) (W : World) (H : SlabAt W b F w h f) (a0 : 0 ≤ x0) (a1 : x0 ≤ x1) (a2 : x1 < w) (a3 : 0 ≤ y0) (a4 : y0 ≤ y1) (a5 : y1 < h) (hv : v < -2147483648 ∨ 2147483647 < v) :
    Calls Try.prog 66 #[.pointer (some ⟨b, 0, none⟩), .agg #[.int .i64 x0, .int .i64 y0, .int .i64 x1, .int .i64 y1], .int .i64 v] W fun e W' => e = .returned (.int .i64 7) ∧ Below W.heap.size W W' := by
  obtain ⟨c, hb, hl⟩ := H.blk
  clear hl
  go_enter Try.func66, Try.ntmps66
  go_wp2_with fail
  refine (slab_check_any b w h _ _ _ _ _ _ (below_blk (below_alloc1 _ _) hb) H.w1 H.w2 H.h1 H.h2).mono ?_
  rw [withinC_ok.2 ⟨a0, a1, a2, a3, a4, a5⟩]
  rintro e w1' ⟨rfl, hb1⟩
  have hB := below_next (below_alloc1 _ _) hb1
  clear hb1
  go_wp2_with fail
  refine (slab_may_no _ _ hv).mono ?_
  rintro e w' ⟨rfl, rfl⟩
  go_wp2_with fail
  go_ret
  exact ⟨rfl, hB⟩
end Go.Proofs.Ytfnflgcalhiamaa

/- Texts of this claim, joined: Tail, Rect, Rect2, Slab, SlabNew. -/
import Derived.Test.YtgofkgmhpnkchaaDownStepsPack1
import Derived.Deep.Quiet
import Derived.StillTail
import Derived.Deep.LoopGhost
import Derived.Deep.RegionLaw
/- A region that draws its order, whose operations up to the n-th only read (or call what leaves all that was there), and whose last ones come in one forced order: one walk of the text's order serves every order; the head in any world of a class, the tail from whatever world of it. -/
set_option linter.unusedVariables false
namespace Go.Proofs.Ytgofkgmhpnkchaa
open Go.RowKit
section
variable {P : Program} {ops : Array Oper} {md : Region.Mode} {C : World → Prop}

/-- Whatever order the head is in, till L. -/
def HeadAny (P : Program) (md : Region.Mode) (ops : Array Oper) (C : World → Prop) (n : Nat) (L : Array Bool → Act → Prop) : Nat → Array Bool → Act → Prop
  | 0, listed, a => L listed a
  | f + 1, listed, a =>
    Region.ready md ops listed ≠ [] ∧ ∀ i ∈ Region.ready md ops listed, i < n ∧ qOp P ops C i (HeadAny P md ops C n L f (listed.setIfInBounds i true)) a

theorem HeadAny.any {n g : Nat} {L : Array Bool → Act → Prop} {Q' : Exit → Act → World → Prop} (hL : ∀ listed a w, C w → L listed a → wpAny P md ops Q' g listed a w) :
    ∀ (f : Nat) (listed : Array Bool) (a : Act) (w : World), C w → HeadAny P md ops C n L f listed a → wpAny P md ops Q' (f + g) listed a w
  | 0, listed, a, w, hw, h => by rw [Nat.zero_add]; exact hL _ _ _ hw h
  | f + 1, listed, a, w, hw, h => by
    rw [show f + 1 + g = (f + g) + 1 by omega]
    exact ⟨fun h0 => absurd h0 h.1, fun i hi => wpOp_of_qOp hw (fun a' w' hw' h' => HeadAny.any hL f _ a' w' hw' h') (h.2 i hi).2⟩

theorem HeadAny.first {n i : Nat} {oi : Oper} {v : Value} {L : Array Bool → Act → Prop} (hi : ops[i]? = some oi) (hsel : ∀ (j : Nat) (o : Oper) cs b, ops[j]? = some o → o.op ≠ .select cs b)
    (hs : Region.sinkB md ops n = true) (hc : Region.chainB md ops n = true) (hn : n < ops.size) (hin : i < n)
    (hdone : ∀ listed a, L listed a → ∀ j ∈ Region.ready md ops listed, n ≤ j) :
    ∀ (f : Nat) (listed : Array Bool) (a : Act), HeadInv md ops n listed →
      (∀ j oj, ops[j]? = some oj → j ≠ i → listed.getD j true = false → (∀ e ∈ oj.after, Region.binds md e = true → e.on ≠ i) → oi.apart ops oj = true) →
      i ∈ Region.ready md ops listed → YieldsIn P ops C oi v a →
      HeadAny P md ops C n L f (listed.setIfInBounds i true) (a.put oi.dst v) → HeadAny P md ops C n L (f + 1) listed a := by
  intro f
  have below : ∀ listed, HeadInv md ops n listed → i ∈ Region.ready md ops listed → ∀ j ∈ Region.ready md ops listed, j < n := by
    intro listed inv hr j hj
    rcases Nat.lt_or_ge j n with h | h
    · exact h
    · exact absurd hj (tail_waits hs hc hn inv _ i rfl hin (mem_ready.1 hr).1 j h)
  induction f with
  | zero =>
    intro listed a inv _ hr hy H
    refine ⟨fun h => (by rw [h] at hr; cases hr), fun j hj => ?_⟩
    have hjn := below listed inv hr j hj
    refine ⟨hjn, ?_⟩
    by_cases hji : j = i
    · subst hji; exact hy.qOp hi H
    · have := hdone _ _ H j (ready_mono hj hji)
      omega
  | succ f ih =>
    intro listed a inv hfree hr hy H
    refine ⟨fun h => (by rw [h] at hr; cases hr), fun j hj => ?_⟩
    have hjn := below listed inv hr j hj
    refine ⟨hjn, ?_⟩
    by_cases hji : j = i
    · subst hji; exact hy.qOp hi H
    · have h1 := (H.2 j (ready_mono hj hji)).2
      obtain ⟨hjun, oj, hoj, hall⟩ := mem_ready.1 hj
      have hnot : ∀ e ∈ oj.after, Region.binds md e = true → e.on ≠ i := fun e he hb heq => by
        have h1 := hall e he hb
        rw [heq, getD_both (mem_ready.1 hr).1] at h1
        cases h1
      have h2 := qOp_put hoj (hfree j oj hoj hji hjun hnot) (fun cs b => hsel i oi cs b hi) (fun cs b => hsel j oj cs b hoj) hy h1
      have hfree' : ∀ k ok, ops[k]? = some ok → k ≠ i → (listed.setIfInBounds j true).getD k true = false →
          (∀ e ∈ ok.after, Region.binds md e = true → e.on ≠ i) → oi.apart ops ok = true := fun k ok hk hki hun hno => by
        refine hfree k ok hk hki ?_ hno
        by_cases hjk : j = k
        · subst hjk; exact hjun
        · rw [getD_set_ne true hjk] at hun; exact hun
      refine qOp_mono (fun a' h3 => ih (listed.setIfInBounds j true) a' (inv.set hj hjn) hfree' (ready_mono hr (Ne.symm hji)) h3.1 ?_) h2
      rw [Array.setIfInBounds_comm _ _ hji]
      exact h3.2

theorem HeadAny.lex {n g : Nat} {Lq : Act → Prop} (hsel : Region.noSelect ops = true) (hs : Region.sinkB md ops n = true) (hc : Region.chainB md ops n = true) (hn : n < ops.size) :
    ∀ (l : List Oper) (k : Nat) (listed : Array Bool) (a : Act), (∀ j, j < l.length → l[j]? = ops[k + j]?) → k + l.length = n → HeadInv md ops n listed →
    Region.lexHead md ops g l.length k listed = true → wpQuiet P ops C Lq l a →
    HeadAny P md ops C n (fun listed' a' => Region.seqB md ops g n listed' = true ∧ Lq a') l.length listed a
  | [], k, listed, a, _, hk, _, hB, h => by
    have : k = n := by simpa using hk
    subst this
    exact ⟨by simpa [Region.lexHead] using hB, h⟩
  | o :: l, k, listed, a, hl, hk, inv, hB, h => by
    have h0 : ops[k]? = some o := by simpa using (hl 0 (by simp)).symm
    simp only [List.length_cons, Region.lexHead, Bool.and_eq_true] at hB
    obtain ⟨⟨hr, hf⟩, hB'⟩ := hB
    have hkn : k < n := by simp only [List.length_cons] at hk; omega
    have hr' : k ∈ Region.ready md ops listed := by simpa using hr
    have hst : qOp P ops C k (wpQuiet P ops C Lq l) a := by unfold qOp; simp only [h0]; exact h
    obtain ⟨v, hy, hK⟩ := yieldsIn_of_qOp h0 hst
    exact HeadAny.first h0 (Region.noSelect_spec hsel) hs hc hn hkn (fun listed' a' hL => seqB_ready hL.1) l.length listed a inv (Region.free_spec h0 hf) hr' hy
      (HeadAny.lex hsel hs hc hn l (k + 1) _ _ (fun j hj => by have := hl (j + 1) (by simp; omega); simpa [Nat.add_assoc, Nat.add_comm 1 j] using this) (by simp only [List.length_cons] at hk; omega) (inv.set hr' hkn) hB' hK)

theorem wp_region_tail {id : Nat} {Q : Exit → Act → World → Prop} {a : Act} {w : World} {l : List Oper} (n : Nat) (hm : P.follows .mixedOrders = true) (hB : Region.lexTailB .any l.toArray n = true) (hC : C { w with drawn := w.drawn + 1 })
    (h : wpQuiet P l.toArray C (fun a' => ∀ w', C w' → wpList P l.toArray Q (l.drop n) a' w') (l.take n) a) : (Code.region id l.toArray true).wp P Q a w := by
  simp only [Region.lexTailB, Bool.and_eq_true, decide_eq_true_eq] at hB
  obtain ⟨⟨⟨⟨hsel, hn⟩, hs⟩, hc⟩, hlex⟩ := hB
  have hn' : n < l.length := by simpa using hn
  have htl : (l.take n).length = n := by simp; omega
  have hdl : (l.drop n).length = l.toArray.size - n := by simp
  have inv0 : HeadInv .any l.toArray n (Array.replicate l.toArray.size false) :=
    ⟨by simp, fun j oj _ hl => (by rw [getD_replicate_false] at hl; cases hl), fun t _ ht => getD_in (by simpa using ht) (getD_replicate_false _ _)⟩
  have H := HeadAny.lex (md := .any) (g := l.toArray.size - n) hsel hs hc hn (l.take n) 0 _ a (fun j hj => by
    have hj' : j < n := by rw [htl] at hj; exact hj
    simp [hj']) (by simpa using htl) inv0 (by rw [htl]; exact hlex) h
  refine wp_region_any hm ?_
  have := HeadAny.any (Q' := Q) (g := l.toArray.size - n) (fun listed a' w' hw' hL => by
    have := wpAny_of_seq (md := .any) (Q' := Q) (l.drop n) n listed a' w' (fun j => by simp [List.getElem?_drop]) (by rw [hdl]; exact hL.1) (hL.2 w' hw')
    rwa [hdl] at this) _ _ _ _ hC H
  rw [htl, show n + (l.toArray.size - n) = l.toArray.size by omega] at this
  exact this
end

/-- At the class: what was there has not turned. The head. -/
theorem wp_tail {P : Program} {id : Nat} {Q : Exit → Act → World → Prop} {a : Act} {w : World} {l : List Oper} (n : Nat) (hm : P.follows .mixedOrders = true) (hB : Region.lexTailB .any l.toArray n = true)
    (h : wpQuiet P l.toArray (fun w' => ∃ p : Regrown, w' = Sort.grow (redrawn w p.d) p.os) (fun a' => ∀ w', Below w.heap.size w w' → wpList P l.toArray Q (l.drop n) a' w') (l.take n) a) : (Code.region id l.toArray true).wp P Q a w :=
  wp_region_tail (C := fun w' => ∃ p : Regrown, w' = Sort.grow (redrawn w p.d) p.os) n hm hB ⟨⟨w.drawn + 1, #[]⟩, by rw [Sort.grow_empty]; rfl⟩ (by
    have : (fun a' => ∀ w', Below w.heap.size w w' → wpList P l.toArray Q (l.drop n) a' w') = (fun a' => ∀ w', (∃ p : Regrown, w' = Sort.grow (redrawn w p.d) p.os) → wpList P l.toArray Q (l.drop n) a' w') := by
      funext a'
      refine propext ⟨fun h w' hw' => ?_, fun h w' hw' => h w' (regrown_of_below hw')⟩
      obtain ⟨p, rfl⟩ := hw'
      exact h _ (below_regrown w p.d p.os)
    rw [← this]; exact h)
/-- The whole region reads. -/
theorem wp_quiet {P : Program} {id : Nat} {Q : Exit → Act → World → Prop} {a : Act} {w : World} {l : List Oper} (hm : P.follows .mixedOrders = true) (hB : Region.lexB .any l.toArray = true)
    (h : wpQuiet P l.toArray (fun w' => ∃ p : Regrown, w' = Sort.grow (redrawn w p.d) p.os) (fun a' => ∀ w', Below w.heap.size w w' → Q .normal a' w') l a) : (Code.region id l.toArray true).wp P Q a w :=
  wp_region_quiet_below hm hB (by
    have : (fun a' => ∀ w', Below w.heap.size w w' → Q .normal a' w') = (fun a' => ∀ w', (∃ p : Regrown, w' = Sort.grow (redrawn w p.d) p.os) → Q .normal a' w') := by
      funext a'
      refine propext ⟨fun h w' hw' => ?_, fun h w' hw' => h w' (regrown_of_below hw')⟩
      obtain ⟨p, rfl⟩ := hw'
      exact h _ (below_regrown w p.d p.os)
    rw [← this]; exact h)
/-- A callee that leaves what was there, met in a world of the class. -/
theorem Calls.quiet {P : Program} {f : FuncId} {args : Array Value} {w : World} {p : Regrown} {v : Value}
    (h : Calls P f args (Sort.grow (redrawn w p.d) p.os) fun e w' => e = .returned v ∧ Below (Sort.grow (redrawn w p.d) p.os).heap.size (Sort.grow (redrawn w p.d) p.os) w') : Calls P f args (Sort.grow (redrawn w p.d) p.os) fun e w'' => e = .returned v ∧ ∃ p : Regrown, w'' = Sort.grow (redrawn w p.d) p.os :=
  Calls.regrown_of h
/-- The cells of a known block, in every world of the class. -/
theorem cells_q {w : World} {b : Nat} {cs : Array Value} {t : TypeId} {fr : Nat × Nat} (h : w.heap[b]? = some (.cells cs t fr)) (i : Nat) {v : Value} (hv : cs[i]? = some v) (d : Nat) (os : Array Obj) : (Sort.grow (redrawn w d) os).cell? ⟨b, i, none⟩ = some v :=
  cell_regrown ((blk_cell h i).trans hv) d os
end Go.Proofs.Ytgofkgmhpnkchaa
/- Contracts of package rect. -/
set_option linter.unusedVariables false
set_option linter.unusedSimpArgs false
namespace Go.Proofs.Ytgofkgmhpnkchaa
open Go.RowKit

theorem inside_any (n e : Int) (w : World) :
    Calls Try.prog 95 #[.int .i64 n, .int .i64 e] w fun r w' => r = .returned (.bool (decide (0 ≤ n ∧ n < e))) ∧ w = w' := by
  go_enter Try.func95, Try.ntmps95
  by_cases h : 0 ≤ n
  · have h1 : decide (0 ≤ n) = true := decide_eq_true h
    by_cases h2 : n < e
    · go_wp2; go_ret; exact ⟨by simp [h, h2], rfl⟩
    · go_wp2; go_ret; exact ⟨by simp [h, h2], rfl⟩
  · have h1 : decide (0 ≤ n) = false := decide_eq_false h
    go_wp2; go_ret; exact ⟨by simp [h], rfl⟩
theorem inside_yes (n e : Int) (w : World) (h0 : 0 ≤ n) (h1 : n < e) :
    Calls Try.prog 95 #[.int .i64 n, .int .i64 e] w fun r w' => r = .returned (.bool true) ∧ w = w' :=
  (inside_any n e w).mono fun _ _ h => by simpa [h0, h1] using h
theorem inside_no (n e : Int) (w : World) (h : n < 0 ∨ e ≤ n) :
    Calls Try.prog 95 #[.int .i64 n, .int .i64 e] w fun r w' => r = .returned (.bool false) ∧ w = w' :=
  (inside_any n e w).mono fun _ _ hh => by
    have : ¬ (0 ≤ n ∧ n < e) := by omega
    simpa [this] using hh

/-- The code of a rectangle in a grid whose size can be. -/
def withinC (x0 y0 x1 y1 W H : Int) : Int :=
  if 0 ≤ x0 ∧ x0 < W ∧ 0 ≤ x1 ∧ x1 < W ∧ 0 ≤ y0 ∧ y0 < H ∧ 0 ≤ y1 ∧ y1 < H then (if x0 ≤ x1 ∧ y0 ≤ y1 then 0 else 5) else 4

theorem withinC_ok {x0 y0 x1 y1 W H : Int} : withinC x0 y0 x1 y1 W H = 0 ↔ (0 ≤ x0 ∧ x0 ≤ x1 ∧ x1 < W ∧ 0 ≤ y0 ∧ y0 ≤ y1 ∧ y1 < H) := by
  unfold withinC
  constructor
  · intro h
    split at h
    · split at h
      · omega
      · simp at h
    · simp at h
  · intro h
    rw [if_pos (by omega), if_pos (by omega)]

set_option maxHeartbeats 1000000 in
theorem within_ok (x0 y0 x1 y1 W H : Int) (w : World) (hW : 1 ≤ W) (hW' : W ≤ 1024) (hH : 1 ≤ H) (hH' : H ≤ 1024) (h0 : 0 ≤ x0) (h1 : x0 ≤ x1) (h2 : x1 < W) (h3 : 0 ≤ y0) (h4 : y0 ≤ y1) (h5 : y1 < H) :
    Calls Try.prog 83 #[.agg #[.int .i64 x0, .int .i64 y0, .int .i64 x1, .int .i64 y1], .int .i64 W, .int .i64 H] w fun r w' => r = .returned (.int .i64 0) ∧ Below w.heap.size w w' := by
  have q1 : decide (x1 < x0) = false := decide_eq_false (by omega)
  have q2 : decide (y1 < y0) = false := decide_eq_false (by omega)
  go_enter Try.func83, Try.ntmps83
  go_wp2_with (go_at_call 95; refine (inside_yes _ _ _ (by omega) (by omega)).mono ?_; rintro e w' ⟨rfl, rfl⟩)
  go_ret
  exact ⟨rfl, below_alloc1 _ _⟩

set_option maxHeartbeats 1000000 in
theorem within_turned (x0 y0 x1 y1 W H : Int) (w : World) (hW : 1 ≤ W) (hW' : W ≤ 1024) (hH : 1 ≤ H) (hH' : H ≤ 1024) (h0 : 0 ≤ x0) (h1 : x0 < W) (h2 : 0 ≤ x1) (h2' : x1 < W) (h3 : 0 ≤ y0) (h3' : y0 < H) (h4 : 0 ≤ y1) (h5 : y1 < H) (ht : x1 < x0 ∨ y1 < y0) :
    Calls Try.prog 83 #[.agg #[.int .i64 x0, .int .i64 y0, .int .i64 x1, .int .i64 y1], .int .i64 W, .int .i64 H] w fun r w' => r = .returned (.int .i64 5) ∧ Below w.heap.size w w' := by
  by_cases hx : x1 < x0
  · have q1 : decide (x1 < x0) = true := decide_eq_true hx
    go_enter Try.func83, Try.ntmps83
    go_wp2_with (go_at_call 95; refine (inside_yes _ _ _ (by omega) (by omega)).mono ?_; rintro e w' ⟨rfl, rfl⟩)
    go_ret
    exact ⟨rfl, below_alloc1 _ _⟩
  · have q1 : decide (x1 < x0) = false := decide_eq_false hx
    have q2 : decide (y1 < y0) = true := decide_eq_true (by omega)
    go_enter Try.func83, Try.ntmps83
    go_wp2_with (go_at_call 95; refine (inside_yes _ _ _ (by omega) (by omega)).mono ?_; rintro e w' ⟨rfl, rfl⟩)
    go_ret
    exact ⟨rfl, below_alloc1 _ _⟩

set_option maxHeartbeats 1000000 in
theorem within_place (x0 y0 x1 y1 W H : Int) (w : World) (hW : 1 ≤ W) (hW' : W ≤ 1024) (hH : 1 ≤ H) (hH' : H ≤ 1024) (hn : ¬ (0 ≤ x0 ∧ x0 < W ∧ 0 ≤ x1 ∧ x1 < W ∧ 0 ≤ y0 ∧ y0 < H ∧ 0 ≤ y1 ∧ y1 < H)) :
    Calls Try.prog 83 #[.agg #[.int .i64 x0, .int .i64 y0, .int .i64 x1, .int .i64 y1], .int .i64 W, .int .i64 H] w fun r w' => r = .returned (.int .i64 4) ∧ Below w.heap.size w w' := by
  by_cases a0 : 0 ≤ x0 ∧ x0 < W
  · by_cases a1 : 0 ≤ x1 ∧ x1 < W
    · by_cases a2 : 0 ≤ y0 ∧ y0 < H
      · have a3 : y1 < 0 ∨ H ≤ y1 := by omega
        clear hn
        go_enter Try.func83, Try.ntmps83
        go_wp2_with (first | (go_at_call 95; refine (inside_yes _ _ _ (by omega) (by omega)).mono ?_; rintro e w' ⟨rfl, rfl⟩) | (go_at_call 95; refine (inside_no _ _ _ (by omega)).mono ?_; rintro e w' ⟨rfl, rfl⟩))
        go_ret
        exact ⟨rfl, below_alloc1 _ _⟩
      · have a3 : y0 < 0 ∨ H ≤ y0 := by omega
        clear hn a2
        go_enter Try.func83, Try.ntmps83
        go_wp2_with (first | (go_at_call 95; refine (inside_yes _ _ _ (by omega) (by omega)).mono ?_; rintro e w' ⟨rfl, rfl⟩) | (go_at_call 95; refine (inside_no _ _ _ (by omega)).mono ?_; rintro e w' ⟨rfl, rfl⟩))
        go_ret
        exact ⟨rfl, below_alloc1 _ _⟩
    · have a3 : x1 < 0 ∨ W ≤ x1 := by omega
      clear hn a1
      go_enter Try.func83, Try.ntmps83
      go_wp2_with (first | (go_at_call 95; refine (inside_yes _ _ _ (by omega) (by omega)).mono ?_; rintro e w' ⟨rfl, rfl⟩) | (go_at_call 95; refine (inside_no _ _ _ (by omega)).mono ?_; rintro e w' ⟨rfl, rfl⟩))
      go_ret
      exact ⟨rfl, below_alloc1 _ _⟩
  · have a3 : x0 < 0 ∨ W ≤ x0 := by omega
    clear hn a0
    go_enter Try.func83, Try.ntmps83
    go_wp2_with (first | (go_at_call 95; refine (inside_yes _ _ _ (by omega) (by omega)).mono ?_; rintro e w' ⟨rfl, rfl⟩) | (go_at_call 95; refine (inside_no _ _ _ (by omega)).mono ?_; rintro e w' ⟨rfl, rfl⟩))
    go_ret
    exact ⟨rfl, below_alloc1 _ _⟩

theorem within_any (x0 y0 x1 y1 W H : Int) (w : World) (hW : 1 ≤ W) (hW' : W ≤ 1024) (hH : 1 ≤ H) (hH' : H ≤ 1024) :
    Calls Try.prog 83 #[.agg #[.int .i64 x0, .int .i64 y0, .int .i64 x1, .int .i64 y1], .int .i64 W, .int .i64 H] w fun r w' => r = .returned (.int .i64 (withinC x0 y0 x1 y1 W H)) ∧ Below w.heap.size w w' := by
  by_cases h : 0 ≤ x0 ∧ x0 < W ∧ 0 ≤ x1 ∧ x1 < W ∧ 0 ≤ y0 ∧ y0 < H ∧ 0 ≤ y1 ∧ y1 < H
  · by_cases h2 : x0 ≤ x1 ∧ y0 ≤ y1
    · rw [show withinC x0 y0 x1 y1 W H = 0 from by unfold withinC; rw [if_pos h, if_pos h2]]
      exact within_ok _ _ _ _ _ _ _ hW hW' hH hH' (by omega) (by omega) (by omega) (by omega) (by omega) (by omega)
    · rw [show withinC x0 y0 x1 y1 W H = 5 from by unfold withinC; rw [if_pos h, if_neg h2]]
      exact within_turned _ _ _ _ _ _ _ hW hW' hH hH' (by omega) (by omega) (by omega) (by omega) (by omega) (by omega) (by omega) (by omega) (by omega)
  · rw [show withinC x0 y0 x1 y1 W H = 4 from by unfold withinC; rw [if_neg h]]
    exact within_place _ _ _ _ _ _ _ hW hW' hH hH' h

theorem right_any (x0 y0 x1 y1 : Int) (w : World) :
    Calls Try.prog 88 #[.agg #[.int .i64 x0, .int .i64 y0, .int .i64 x1, .int .i64 y1]] w fun r w' => r = .returned (.bool (withinC x0 y0 x1 y1 1024 1024 == 0)) ∧ Below w.heap.size w w' := by
  go_enter Try.func88, Try.ntmps88
  go_wp2_with fail
  refine (within_any _ _ _ _ _ _ _ (by omega) (by omega) (by omega) (by omega)).mono ?_
  rintro e w1 ⟨rfl, hb⟩
  go_wp2_with fail
  go_ret
  exact ⟨rfl, (below_alloc1 _ _).trans (hb.mono (by simp))⟩
theorem right_ok (x0 y0 x1 y1 : Int) (w : World) (h0 : 0 ≤ x0) (h1 : x0 ≤ x1) (h2 : x1 < 1024) (h3 : 0 ≤ y0) (h4 : y0 ≤ y1) (h5 : y1 < 1024) :
    Calls Try.prog 88 #[.agg #[.int .i64 x0, .int .i64 y0, .int .i64 x1, .int .i64 y1]] w fun r w' => r = .returned (.bool true) ∧ Below w.heap.size w w' :=
  (right_any x0 y0 x1 y1 w).mono fun e w' h => by
    rw [withinC_ok.2 ⟨h0, h1, h2, h3, h4, h5⟩] at h
    simpa using h

theorem width_any (x0 y0 x1 y1 : Int) (w : World) (h0 : 0 ≤ x0) (h1 : x0 < 2000) (h2 : 0 ≤ x1) (h3 : x1 < 2000) :
    Calls Try.prog 96 #[.agg #[.int .i64 x0, .int .i64 y0, .int .i64 x1, .int .i64 y1]] w fun r w' => r = .returned (.int .i64 (x1 - x0 + 1)) ∧ Below w.heap.size w w' := by
  go_enter Try.func96, Try.ntmps96
  go_wp2
  go_ret
  exact ⟨rfl, below_alloc1 _ _⟩

end Go.Proofs.Ytgofkgmhpnkchaa
/- Contracts of package rect, on. -/
set_option linter.unusedVariables false
set_option linter.unusedSimpArgs false
namespace Go.Proofs.Ytgofkgmhpnkchaa
open Go.RowKit
set_option maxHeartbeats 1000000 in
theorem area_ok (x0 y0 x1 y1 : Int) (w : World) (h0 : 0 ≤ x0) (h1 : x0 ≤ x1) (h2 : x1 < 1024) (h3 : 0 ≤ y0) (h4 : y0 ≤ y1) (h5 : y1 < 1024) :
    Calls Try.prog 63 #[.agg #[.int .i64 x0, .int .i64 y0, .int .i64 x1, .int .i64 y1]] w fun r w' => r = .returned (.int .i64 ((x1 - x0 + 1) * (y1 - y0 + 1))) ∧ Below w.heap.size w w' := by
  go_enter Try.func63, Try.ntmps63
  go_wp2_with fail
  refine (right_ok _ _ _ _ _ h0 h1 h2 h3 h4 h5).mono ?_
  rintro e w1 ⟨rfl, hb⟩
  have hB := below_next (below_alloc1 _ _) hb
  have c0 := below_blk hb (blk_new w _)
  clear hb
  go_wp2_with fail
  have k_0 := cells_q c0 0 rfl
  have k_1 := cells_q c0 1 rfl
  have k_2 := cells_q c0 2 rfl
  have k_3 := cells_q c0 3 rfl
  refine wp_quiet (by kernel_rfl) (by kernel_rfl) ?_
  repeat (go_big_quiet_step ((first | (go_at_call 96; exact Calls.quiet (width_any _ _ _ _ _ (by omega) (by omega) (by omega) (by omega))))))
  refine wpQuiet_nil ?_
  intro w2 hb2
  clear k_0 k_1 k_2 k_3 c0
  go_wp2_with fail
  go_ret
  have m := mul_bd (A := 1024) (B := 1024) (show 0 ≤ x1 - x0 + 1 by omega) (by omega) (show 0 ≤ y1 - y0 + 1 by omega) (by omega)
  exact ⟨ret_int (wrap64_id (by omega) (by omega)), below_next hB hb2⟩

set_option maxHeartbeats 1000000 in
theorem nth_ok (x0 y0 x1 y1 i : Int) (w : World) (h0 : 0 ≤ x0) (h1 : x0 ≤ x1) (h2 : x1 < 1024) (h3 : 0 ≤ y0) (h4 : y0 ≤ y1) (h5 : y1 < 1024) (hi : 0 ≤ i) (hi2 : i < (x1 - x0 + 1) * (y1 - y0 + 1)) :
    Calls Try.prog 55 #[.agg #[.int .i64 x0, .int .i64 y0, .int .i64 x1, .int .i64 y1], .int .i64 i] w fun r w' => r = .returned (.tuple #[.agg #[.int .i64 (x0 + i % (x1 - x0 + 1)), .int .i64 (y0 + i / (x1 - x0 + 1))], .bool true]) ∧ Below w.heap.size w w' := by
  have hd := div_bd hi (show 0 < x1 - x0 + 1 by omega) (by rw [Int.mul_comm]; exact hi2)
  have hm0 := Int.emod_nonneg i (show x1 - x0 + 1 ≠ 0 by omega)
  have hm1 := Int.emod_lt_of_pos i (show 0 < x1 - x0 + 1 by omega)
  obtain ⟨hd0, hd1⟩ := hd
  have m := mul_bd (A := 1024) (B := 1024) (show 0 ≤ x1 - x0 + 1 by omega) (by omega) (show 0 ≤ y1 - y0 + 1 by omega) (by omega)
  obtain ⟨m0, m1⟩ := m
  have hi3 : i ≤ 1048576 := by omega
  go_enter Try.func55, Try.ntmps55
  go_wp2_with fail
  refine (area_ok _ _ _ _ _ h0 h1 h2 h3 h4 h5).mono ?_
  rintro e w1 ⟨rfl, hb⟩
  have hB := below_next (below_alloc (below_alloc1 _ _) _) hb
  have c0 := below_blk hb (below_blk (below_alloc1 _ _) (blk_new w _))
  have c1 := below_blk hb (blk_new _ _)
  rw [alloc_size] at c1
  clear hb
  go_wp2_with fail
  refine (inside_yes _ _ _ hi hi2).mono ?_
  rintro e w' ⟨rfl, rfl⟩
  go_wp2_with fail
  have k_0 := cells_q c0 0 rfl
  have k_1 := cells_q c0 1 rfl
  have k_2 := cells_q c0 2 rfl
  have k_3 := cells_q c0 3 rfl
  refine wp_tail 15 (by kernel_rfl) (by kernel_rfl) ?_
  simp only [List.take_succ_cons, List.take_zero, List.drop_succ_cons, List.drop_zero]
  repeat (go_big_quiet_step ((first | (go_at_call 96; exact Calls.quiet (width_any _ _ _ _ _ (by omega) (by omega) (by omega) (by omega))))))
  refine wpQuiet_nil ?_
  intro w2 hb2
  have c2 := below_blk hb2 c1
  have hB2 := below_next hB hb2
  clear k_0 k_1 k_2 k_3 c0 c1 hb2 hB
  have k_0 := cells_w c2 0 rfl
  have k_1 := cells_w c2 1 rfl
  have z_0 := blk_frozen c2 0
  have z_1 := blk_frozen c2 1
  go_wp2_with fail
  refine bodyPost_ret (res_ct rfl rfl (blk_set (blk_set c2 0 _) 1 _) agg_Cell rfl) rfl ?_
  exact ⟨rfl, (hB2.setCell (by simp) _).setCell (by simp) _⟩

theorem floor_any (n : Int) (w : World) (h0 : 0 ≤ n) (h1 : n < 1048576) :
    Calls Try.prog 89 #[.int .i64 n] w fun r w' => r = .returned (.int .i64 (n / 16 * 16)) ∧ w = w' := by
  go_enter Try.func89, Try.ntmps89
  go_wp2
  go_ret
  exact ⟨ret_int (andnot15 n h0 h1), rfl⟩
end Go.Proofs.Ytgofkgmhpnkchaa
/- Contracts of package slab: what a slab is in memory; its cells read. -/
set_option linter.unusedVariables false
set_option linter.unusedSimpArgs false
namespace Go.Proofs.Ytgofkgmhpnkchaa
open Go.RowKit

/-- What a slab's cells are: one value for all, or a row of values; F: where these lie. -/
def LandAt (W : World) (F : Nat → Prop) (w h : Int) (f : Int → Int → Int) (c : Value) : Prop :=
  (∃ v : Int, c = .iface 150 (.int .i32 v) ∧ -2147483648 ≤ v ∧ v ≤ 2147483647 ∧ ∀ x y, 0 ≤ x → x < w → 0 ≤ y → y < h → f x y = v) ∨
  (∃ (k n cap : Nat) (cs : Array Value), c = .iface 157 (.slice (some ⟨k, 0, none⟩) n cap) ∧ F k ∧ k < W.heap.size ∧ (n : Int) = w * h ∧ n ≤ cap ∧ W.heap[k]? = some (.cells cs 21 (0, 0)) ∧
    ∀ x y, 0 ≤ x → x < w → 0 ≤ y → y < h → cs[(y * w + x).toNat]? = some (.int .i32 (f x y)))
/-- A slab at a block. -/
structure SlabAt (W : World) (b : Nat) (F : Nat → Prop) (w h : Int) (f : Int → Int → Int) : Prop where
  w1 : 1 ≤ w
  w2 : w ≤ 16
  h1 : 1 ≤ h
  h2 : h ≤ 16
  own : F b
  lt : ∀ k, F k → k < W.heap.size
  bd : ∀ x y, 0 ≤ x → x < w → 0 ≤ y → y < h → -2147483648 ≤ f x y ∧ f x y ≤ 2147483647
  blk : ∃ c, W.heap[b]? = some (.cells #[.int .i64 w, .int .i64 h, c] 155 (0, 0)) ∧ LandAt W (fun k => F k ∧ k ≠ b) w h f c

theorem LandAt.keep {W W2 : World} {F : Nat → Prop} {w h : Int} {f : Int → Int → Int} {c : Value} (H : LandAt W F w h f c) (hk : ∀ k, F k → W2.heap[k]? = W.heap[k]?) : LandAt W2 F w h f c := by
  rcases H with H | ⟨k, n, cap, cs, h1, h2, h2', h3, h4, h5, h6⟩
  · exact .inl H
  · exact .inr ⟨k, n, cap, cs, h1, h2, (Array.getElem?_eq_some_iff.1 ((hk k h2).trans h5)).1, h3, h4, (hk k h2).trans h5, h6⟩
theorem SlabAt.keep {W W2 : World} {b : Nat} {F : Nat → Prop} {w h : Int} {f : Int → Int → Int} (H : SlabAt W b F w h f) (hs : W.heap.size ≤ W2.heap.size) (hk : ∀ k, F k → W2.heap[k]? = W.heap[k]?) : SlabAt W2 b F w h f := by
  obtain ⟨c, hc, hl⟩ := H.blk
  exact ⟨H.w1, H.w2, H.h1, H.h2, H.own, fun k hk' => Nat.lt_of_lt_of_le (H.lt k hk') hs, H.bd, c, (hk b H.own).trans hc, hl.keep (fun k h => hk k h.1)⟩
theorem SlabAt.below {W W2 : World} {b : Nat} {F : Nat → Prop} {w h : Int} {f : Int → Int → Int} (H : SlabAt W b F w h f) (hb : Below W.heap.size W W2) : SlabAt W2 b F w h f :=
  H.keep hb.size (fun k hk => hb.block k (H.lt k hk))
theorem SlabAt.mod {W W2 : World} {b : Nat} {F S : Nat → Prop} {w h : Int} {f : Int → Int → Int} (H : SlabAt W b F w h f) (hb : Mod S W W2) (hn : ∀ k, F k → ¬ S k) : SlabAt W2 b F w h f :=
  H.keep hb.size (fun k hk => hb.block k (H.lt k hk) (hn k hk))

theorem slab_spot_any (x y : Int) (w : World) :
    Calls Try.prog 103 #[.agg #[.int .i64 x, .int .i64 y]] w fun e w' => e = .returned (.agg #[.int .i64 x, .int .i64 y, .int .i64 x, .int .i64 y]) ∧ Below w.heap.size w w' := by
  go_enter Try.func103, Try.ntmps103
  go_wp2
  refine bodyPost_ret (res_c rfl rfl (blk_new2 _ _ _) agg_Rect rfl) rfl ?_
  exact ⟨rfl, below_alloc (below_alloc1 _ _) _⟩

theorem slab_check_any (b : Nat) (w h x0 y0 x1 y1 : Int) (c : Value) (W : World) (hb : W.heap[b]? = some (.cells #[.int .i64 w, .int .i64 h, c] 155 (0, 0))) (w1 : 1 ≤ w) (w2 : w ≤ 16) (h1 : 1 ≤ h) (h2 : h ≤ 16) :
    Calls Try.prog 90 #[.pointer (some ⟨b, 0, none⟩), .agg #[.int .i64 x0, .int .i64 y0, .int .i64 x1, .int .i64 y1]] W fun e W' => e = .returned (.int .i64 (withinC x0 y0 x1 y1 w h)) ∧ Below W.heap.size W W' := by
  go_enter Try.func90, Try.ntmps90
  go_wp2_with fail
  have n0 := below_blk (below_alloc1 W (.cells #[.int .i64 x0, .int .i64 y0, .int .i64 x1, .int .i64 y1] 45)) hb
  have n1 := blk_new W (.cells #[.int .i64 x0, .int .i64 y0, .int .i64 x1, .int .i64 y1] 45)
  have k_0 := cells_q n0 0 rfl
  have k_1 := cells_q n0 1 rfl
  have j_0 := cells_q n1 0 rfl
  have j_1 := cells_q n1 1 rfl
  have j_2 := cells_q n1 2 rfl
  have j_3 := cells_q n1 3 rfl
  refine wp_quiet (by kernel_rfl) (by kernel_rfl) ?_
  repeat (go_big_quiet_step ((first | (go_at_call 83; exact Calls.quiet (within_any _ _ _ _ _ _ _ w1 (by omega) h1 (by omega))))))
  refine wpQuiet_nil ?_
  intro W2 hb2
  clear k_0 k_1 j_0 j_1 j_2 j_3 n0 n1
  go_wp2_with fail
  go_ret
  exact ⟨rfl, below_next (below_alloc1 _ _) hb2⟩

/-- The methods that lie behind a slab's cells. -/
theorem method_flat (v : Value) (w : World) : (method 297 150 v "hachure/slab.at").run Try.prog w = .ok (137, v) w := by kernel_rfl
theorem method_rough (v : Value) (w : World) : (method 297 157 v "hachure/slab.at").run Try.prog w = .ok (138, v) w := by kernel_rfl
theorem nil_flat (v : Value) (w : World) : (nilAhead 297 150 v "hachure/slab.at").run Try.prog w = .ok (some false) w := by kernel_rfl
theorem nil_rough (v : Value) (w : World) : (nilAhead 297 157 v "hachure/slab.at").run Try.prog w = .ok (some false) w := by kernel_rfl
attribute [go_sem] method_flat method_rough nil_flat nil_rough
end Go.Proofs.Ytgofkgmhpnkchaa
/- slab.New, slices.Repeat, and what looks for another value. -/
set_option linter.unusedVariables false
set_option linter.unusedSimpArgs false
namespace Go.Proofs.Ytgofkgmhpnkchaa
open Go.RowKit

theorem slab_may_yes (v : Int) (w : World) (h0 : -2147483648 ≤ v) (h1 : v ≤ 2147483647) :
    Calls Try.prog 91 #[.int .i64 v] w fun e w' => e = .returned (.bool true) ∧ w = w' := by
  have t1 : decide (-2147483648 ≤ v) = true := decide_eq_true h0
  have t2 : decide (v ≤ 2147483647) = true := decide_eq_true h1
  go_enter Try.func91, Try.ntmps91
  go_wp2
  go_ret
  exact ⟨rfl, rfl⟩
theorem slab_may_no (v : Int) (w : World) (h : v < -2147483648 ∨ 2147483647 < v) :
    Calls Try.prog 91 #[.int .i64 v] w fun e w' => e = .returned (.bool false) ∧ w = w' := by
  by_cases h0 : -2147483648 ≤ v
  · have t1 : decide (-2147483648 ≤ v) = true := decide_eq_true h0
    have t2 : decide (v ≤ 2147483647) = false := decide_eq_false (by omega)
    go_enter Try.func91, Try.ntmps91
    go_wp2
    go_ret
    exact ⟨rfl, rfl⟩
  · have t1 : decide (-2147483648 ≤ v) = false := decide_eq_false h0
    go_enter Try.func91, Try.ntmps91
    go_wp2
    go_ret
    exact ⟨rfl, rfl⟩
theorem tile_right_yes (x y : Int) (w : World) (h0 : 1 ≤ x) (h1 : x ≤ 16) (h2 : 1 ≤ y) (h3 : y ≤ 16) :
    Calls Try.prog 110 #[.int .i64 x, .int .i64 y] w fun e w' => e = .returned (.bool true) ∧ w = w' := by
  go_enter Try.func110, Try.ntmps110
  go_wp2
  go_ret
  exact ⟨rfl, rfl⟩

theorem wrap_i32 {v : Int} (h0 : -2147483648 ≤ v) (h1 : v ≤ 2147483647) : IntKind.i32.wrap v = v := by
  simp [IntKind.wrap, IntKind.bits, IntKind.signed]
  split <;> omega

set_option maxHeartbeats 1000000 in
theorem slab_New_ok (w h v : Int) (W : World) (w1 : 1 ≤ w) (w2 : w ≤ 16) (h1 : 1 ≤ h) (h2 : h ≤ 16) (v1 : -2147483648 ≤ v) (v2 : v ≤ 2147483647) :
    Calls Try.prog 84 #[.int .i64 w, .int .i64 h, .int .i64 v] W fun e W' => ∃ b, e = .returned (.tuple #[.pointer (some ⟨b, 0, none⟩), .int .i64 0]) ∧ W.heap.size ≤ b ∧ Below W.heap.size W W' ∧ SlabAt W' b (fun k => k = b) w h (fun _ _ => v) := by
  have hv := wrap_i32 v1 v2
  go_enter Try.func84, Try.ntmps84
  go_wp2_with (first | (go_at_call 110; refine (tile_right_yes _ _ _ w1 w2 h1 h2).mono ?_; rintro e w' ⟨rfl, rfl⟩) | (go_at_call 91; refine (slab_may_yes _ _ v1 v2).mono ?_; rintro e w' ⟨rfl, rfl⟩))
  go_ret2
  refine ⟨_, rfl, Nat.le_refl _, below_alloc1 _ _, w1, w2, h1, h2, rfl, fun k hk => by subst hk; simp, fun _ _ _ _ _ _ => ⟨v1, v2⟩, _, blk_new _ _, .inl ⟨v, rfl, v1, v2, fun _ _ _ _ _ _ => rfl⟩⟩

theorem and32 (m : Nat) (h : m < 4294967296) : bits .and .u64 (m : Int) 4294967295 = (m : Int) := by
  show IntKind.u64.wrap ((BitVec.ofInt 64 (m : Int) &&& (BitVec.ofInt 64 4294967295)).toNat : Int) = _
  rw [BitVec.toNat_and, BitVec.ofInt_natCast, BitVec.toNat_ofNat, Nat.mod_eq_of_lt (show m < 2 ^ 64 by omega), show (BitVec.ofInt 64 4294967295).toNat = 2 ^ 32 - 1 by decide, Nat.and_two_pow_sub_one_eq_mod, Nat.mod_eq_of_lt (by omega)]
  rw [IntKind.wrap_u64]
  omega
set_option maxHeartbeats 1000000 in
theorem mul_one (n : Nat) (w : World) (hn : n ≤ 256) :
    Calls Try.prog 117 #[.int .u64 1, .int .u64 (n : Int)] w fun e w' => e = .returned (.tuple #[.int .u64 0, .int .u64 (n : Int)]) ∧ w = w' := by
  go_enter Try.func117, Try.ntmps117
  have e1 : bits .and .u64 1 4294967295 = 1 := and32 1 (by omega)
  have e2 : bits .and .u64 (n : Int) 4294967295 = (n : Int) := and32 n (by omega)
  have e3 : (n : Int) / 4294967296 = 0 := by omega
  have e4 : IntKind.u64.wrap (n : Int) = n := by rw [IntKind.wrap_u64]; omega
  have e5 : bits .and .u64 0 4294967295 = 0 := and32 0 (by omega)
  have e6 : IntKind.u64.wrap 0 = 0 := by rw [IntKind.wrap_u64]; omega
  go_wp2
  go_ret2
  exact ⟨rfl, rfl⟩

theorem info_int32 : (Try.prog.info? 21).map (fun i => (i.zero, i.size, i.bytes)) = some (some (.int .i32 0), 1, 4) := by kernel_rfl
theorem size_int32 : (Try.prog.info? 21).map (·.size) = some 1 := by kernel_rfl

/-- The first m cells are v's, the rest are noughts. -/
def halfRow (v : Int) (m n : Nat) : List Value := List.replicate m (.int .i32 v) ++ List.replicate (n - m) (.int .i32 0)
theorem halfRow_splice (v : Int) (m j n : Nat) (h : m + j ≤ n) : splice (halfRow v m n) m (List.replicate j (.int .i32 v)) = halfRow v (m + j) n := by
  unfold splice halfRow
  rw [List.take_left' (by simp), List.length_replicate, List.drop_append, List.length_replicate, List.drop_of_length_le (by simp), List.nil_append, List.drop_replicate, ← List.replicate_append_replicate, List.append_assoc, show n - m - (m + j - m) = n - (m + j) by omega]
theorem halfRow_get (v : Int) (m n j : Nat) (hj : j < m) : (halfRow v m n)[j]? = some (.int .i32 v) := by
  unfold halfRow
  rw [List.getElem?_append_left (by simpa using hj)]
  simp [hj]

theorem src_one {w : World} {k : Nat} {u : Value} (h : w.cell? ⟨k, 0, none⟩ = some u) : ∀ j x, (List.replicate 1 u)[j]? = some x → w.cell? ((⟨k, 0, none⟩ : Addr).add j) = some x := by
  intro j x hx
  have hj : j = 0 := by
    have := (List.getElem?_eq_some_iff.1 hx).1
    simp at this
    exact this
  subst hj
  simp at hx
  subst hx
  exact h

set_option maxHeartbeats 1000000 in
set_option maxRecDepth 100000 in
theorem repeat_ok (k n : Nat) (v : Int) (W : World) (h1 : 1 ≤ n) (hn : n ≤ 256) (hk : W.cell? ⟨k, 0, none⟩ = some (.int .i32 v)) :
    Calls Try.prog 111 #[.slice (some ⟨k, 0, none⟩) 1 1, .int .i64 (n : Int)] W fun e W' => ∃ g, e = .returned (.slice (some ⟨g, 0, none⟩) n n) ∧ W.heap.size ≤ g ∧ Below W.heap.size W W' ∧
      W'.heap[g]? = some (.cells (Array.replicate n (.int .i32 v)) 21 (0, 0)) := by
  have hc0 : decide ((n : Int) < 0) = false := decide_eq_false (by omega)
  have e4 : IntKind.u64.wrap (n : Int) = n := by rw [IntKind.wrap_u64]; omega
  go_enter Try.func111, Try.ntmps111
  have hk2 : ∀ o, (W.alloc o).cell? ⟨k, 0, none⟩ = some (.int .i32 v) := fun o => below_cell (below_alloc1 W o) hk
  go_wp2_with (first | (go_at_call 117; refine (mul_one n _ hn).mono ?_; rintro e w' ⟨rfl, rfl⟩) | (at_make; refine make_one rfl (.tmp 29) (.tmp 29) 157 rfl 21 _ 4 Try.underlying157 info_int32 rfl n rfl rfl (by omega) (by omega) ?_) | (refine wpList_copy_splice rfl (.tmp 31) (.tmp 32) 157 157 rfl 21 Try.underlying157 size_int32 _ _ _ _ _ _ rfl rfl W.heap.size 0 (halfRow v 0 n) 21 (by simpa [halfRow] using blk_new W (.cells (Array.replicate n (.int .i32 0)) 21)) (List.replicate 1 (.int .i32 v)) (Nat.min_eq_left h1).symm (fun _ => ⟨rfl, _, rfl, src_one (hk2 _)⟩) (by simp [halfRow]; omega) (by intro u hu; simp at hu; subst hu; rfl) W.heap.size W (below_alloc1 _ _) (Nat.le_refl _) ?_))
  intro w1 hg hb1
  replace hg : Hid (w1.heap[W.heap.size]? = some (.cells (halfRow v (0 + 1) n).toArray 21 (0, 0))) := by rw [← halfRow_splice v 0 1 n (by omega)]; exact hg
  go_wp2_with fail
  have hn' := Lib.hid hn
  go_loopg [8] n (fun q v8 wr => ∃ m : Nat, 1 ≤ m ∧ m ≤ n ∧ n - m ≤ q ∧ v8 = .int .i64 (m : Int) ∧ Hid (wr.heap[W.heap.size]? = some (.cells (halfRow v m n).toArray 21 (0, 0))) ∧ Below W.heap.size W wr)
  case atStart => exact ⟨1, Nat.le_refl _, h1, Nat.sub_le _ _, rfl, hg, hb1⟩
  case round =>
    clear hg hb1
    obtain ⟨m, hm1, hm2, hq, rfl, hg, hb1⟩ := hrel
    by_cases hlt : m < n
    · have ht : decide ((m : Int) < (n : Int)) = true := decide_eq_true (by omega)
      go_wp2_with fail
      obtain ⟨q2, hq2⟩ : ∃ q, q = Nat.min m (n - m) := ⟨_, rfl⟩
      have hq3 : q2 ≤ m := by rw [hq2]; exact Nat.min_le_left _ _
      have hq4 : q2 ≤ n - m := by rw [hq2]; exact Nat.min_le_right _ _
      have hq5 : 1 ≤ q2 := by rw [hq2]; exact Nat.le_min.2 ⟨hm1, by omega⟩
      have Hq := Lib.hid hq2
      clear hq2
      have hsrc : ∀ j x, (List.replicate q2 (Value.int .i32 v))[j]? = some x → wr.drew.cell? ((⟨W.heap.size, 0, none⟩ : Addr).add j) = some x := by
        intro j x hx
        have hj := (List.getElem?_eq_some_iff.1 hx).1
        rw [List.length_replicate] at hj
        rw [List.getElem?_replicate, if_pos hj] at hx
        rw [add_plain]
        have h1 : wr.drew.cell? ⟨W.heap.size, j, none⟩ = wr.cell? ⟨W.heap.size, j, none⟩ := rfl
        rw [h1, blk_cell hg.out j, List.getElem?_toArray, halfRow_get v m n j (by omega), ← hx]
      have hsrcH := Lib.hid hsrc
      clear hsrc
      have hwq : IntKind.i64.wrap ((m : Int) + (q2 : Int)) = (m : Int) + (q2 : Int) := IntWalk.i64_in _ (by omega)
      have hne : ¬ n = m := by omega
      have hgd : Hid (wr.drew.heap[W.heap.size]? = some (.cells (halfRow v m n).toArray 21 (0, 0))) := hg
      have hbd : Below W.heap.size W wr.drew := hb1.drew
      go_region_law (refine want_step ?hw ?_; (case hw => exact rfl); simp only [Act.put, List.getElem_toArray, List.getElem_cons_zero, List.getElem_cons_succ, List.setIfInBounds_toArray, List.set_cons_zero, List.set_cons_succ]; refine wp_copy ?g1 (.tmp 41) (.tmp 44) 157 157 ?g2 21 Try.underlying157 size_int32 (some ⟨W.heap.size, m, none⟩) (some ⟨W.heap.size, 0, none⟩) (n - m) (n - m) m n ?g3 ?g4 W.heap.size m (halfRow v m n) 21 hgd.out (List.replicate q2 (.int .i32 v)) ?g5 ?g6 ?g7 ?g8 W.heap.size W hbd (Nat.le_refl _) ?g9; (case g1 => rfl); (case g2 => rfl); (case g3 => exact rfl); (case g4 => exact rfl); (case g5 => rw [List.length_replicate]; exact Hq.out); (case g6 => exact fun _ => ⟨rfl, _, rfl, hsrcH.out⟩); (case g7 => simp [halfRow]; omega); (case g8 => intro u hu; simp at hu; rw [hu.2]; rfl); intro w4 hg4 hb4)
      replace hg4 : Hid (w4.heap[W.heap.size]? = some (.cells (halfRow v (m + q2) n).toArray 21 (0, 0))) := by rw [← halfRow_splice v m q2 n (by omega)]; exact hg4
      go_wp2_with fail
      go_roundg (gk - 1)
      case measure => omega
      case rel => exact ⟨m + q2, by omega, by omega, by omega, by first | rfl | exact congrArg (Value.int .i64) (by omega), hg4, hb4⟩
    · have ht : decide ((m : Int) < (n : Int)) = false := decide_eq_false (by omega)
      go_wp2_with fail
      go_ret
      have e : m = n := by omega
      subst e
      exact ⟨_, rfl, Nat.le_refl _, hb1, by simpa [halfRow] using hg.out⟩
end Go.Proofs.Ytgofkgmhpnkchaa

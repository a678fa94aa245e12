/- A region that draws its order: operations up to the n-th only read, then comes one operation (a call whose answer lies anew in memory), then again what only reads: one walk of the text's order serves every order. -/
import Derived.Test.YtcomnpmkedabeaaDoorTail
set_option linter.unusedVariables false
namespace Go.Proofs.YtcomnpmkedabeaaDoor
open Go.RowKit
section
variable {P : Program} {ops : Array Oper} {md : Region.Mode} {C : World → Prop}

/-- Behind n each waits for one from n on. -/
def Region.chain2B (md : Region.Mode) (ops : Array Oper) (n : Nat) : Bool :=
  (List.range ops.size).all fun t => decide (t ≤ n) || (List.range t).any fun j => decide (n ≤ j) && Region.waitsFor md ops t j
/-- n alone comes up, the others then in whatever order. -/
def Region.midB (md : Region.Mode) (ops : Array Oper) (g k : Nat) (listed : Array Bool) : Bool :=
  decide (Region.ready md ops listed = [k]) && Region.lexFrom md ops g (k + 1) (listed.setIfInBounds k true)
def Region.lexHeadM (md : Region.Mode) (ops : Array Oper) (g : Nat) : Nat → Nat → Array Bool → Bool
  | 0, k, listed => Region.midB md ops g k listed
  | f + 1, k, listed => (Region.ready md ops listed).contains k && Region.free md ops listed k && Region.lexHeadM md ops g f (k + 1) (listed.setIfInBounds k true)
def Region.lexMidB (md : Region.Mode) (ops : Array Oper) (n : Nat) : Bool :=
  Region.noSelect ops && decide (n < ops.size) && Region.sinkB md ops n && Region.chain2B md ops n && Region.lexHeadM md ops (ops.size - (n + 1)) n 0 (Array.replicate ops.size false)
theorem midB_ready {g k : Nat} {listed : Array Bool} (h : Region.midB md ops g k listed = true) : ∀ j ∈ Region.ready md ops listed, k ≤ j := by
  intro j hj
  simp only [Region.midB, Bool.and_eq_true, decide_eq_true_eq] at h
  rw [h.1] at hj
  have : j = k := by simpa using hj
  omega
theorem tail_waits2 {n : Nat} {listed : Array Bool} (hs : Region.sinkB md ops n = true) (hc : Region.chain2B md ops n = true) (hn : n < ops.size) (inv : HeadInv md ops n listed) :
    ∀ (d i : Nat), n - i = d → i < n → listed.getD i true = false → ∀ t, n ≤ t → t ∉ Region.ready md ops listed := by
  intro d
  induction d using Nat.strongRecOn with
  | _ d ih =>
    intro i hd hi hun t ht hr
    obtain ⟨_, ot, hot, hall⟩ := mem_ready.1 hr
    have htlt : t < ops.size := (Array.getElem?_eq_some_iff.1 hot).1
    by_cases htn : t = n
    · subst htn
      have h1 := List.all_eq_true.1 hs i (List.mem_range.2 hi)
      obtain ⟨j, hj, hj2⟩ := List.any_eq_true.1 h1
      simp only [Bool.and_eq_true, decide_eq_true_eq] at hj2
      obtain ⟨oj, hoj, e, he, hb, hon⟩ := Region.waitsFor_spec hj2.2
      have hjle : j ≤ t := by have := List.mem_range.1 hj; omega
      by_cases hjt : j = t
      · subst hjt
        have : oj = ot := Option.some.inj (hoj.symm.trans hot)
        subst this
        have h2 := hall e he hb
        rw [hon, getD_both hun] at h2
        cases h2
      · cases hl : listed.getD j false with
        | true =>
          have h2 := inv.closed j oj hoj hl e he hb
          rw [hon, getD_both hun] at h2
          cases h2
        | false =>
          have hjs : j < listed.size := by rw [inv.size]; omega
          exact ih (t - j) (by omega) j rfl (by omega) (getD_in hjs hl) t (Nat.le_refl _) hr
    · have h1 := List.all_eq_true.1 hc t (List.mem_range.2 htlt)
      simp only [Bool.or_eq_true, decide_eq_true_eq] at h1
      rcases h1 with h1 | h1
      · omega
      · obtain ⟨j, hj, hj2⟩ := List.any_eq_true.1 h1
        simp only [Bool.and_eq_true, decide_eq_true_eq] at hj2
        obtain ⟨o', ho', e, he, hb, hon⟩ := Region.waitsFor_spec hj2.2
        have hjt := List.mem_range.1 hj
        have : o' = ot := Option.some.inj (ho'.symm.trans hot)
        subst this
        have h2 := hall e he hb
        rw [hon, getD_both (inv.tail j hj2.1 (by omega))] at h2
        cases h2

theorem HeadAny.first2 {n i : Nat} {oi : Oper} {v : Value} {L : Array Bool → Act → Prop} (hi : ops[i]? = some oi) (hsel : ∀ (j : Nat) (o : Oper) cs b, ops[j]? = some o → o.op ≠ .select cs b)
    (hT : ∀ listed, HeadInv md ops n listed → ∀ i, i < n → listed.getD i true = false → ∀ t, n ≤ t → t ∉ Region.ready md ops listed) (hin : i < n)
    (hdone : ∀ listed a, L listed a → ∀ j ∈ Region.ready md ops listed, n ≤ j) :
    ∀ (f : Nat) (listed : Array Bool) (a : Act), HeadInv md ops n listed →
      (∀ j oj, ops[j]? = some oj → j ≠ i → listed.getD j true = false → (∀ e ∈ oj.after, Region.binds md e = true → e.on ≠ i) → oi.apart ops oj = true) →
      i ∈ Region.ready md ops listed → YieldsIn P ops C oi v a →
      HeadAny P md ops C n L f (listed.setIfInBounds i true) (a.put oi.dst v) → HeadAny P md ops C n L (f + 1) listed a := by
  intro f
  have below : ∀ listed, HeadInv md ops n listed → i ∈ Region.ready md ops listed → ∀ j ∈ Region.ready md ops listed, j < n := by
    intro listed inv hr j hj
    rcases Nat.lt_or_ge j n with h | h
    · exact h
    · exact absurd hj (hT listed inv i hin (mem_ready.1 hr).1 j h)
  induction f with
  | zero =>
    intro listed a inv _ hr hy H
    refine ⟨fun h => (by rw [h] at hr; cases hr), fun j hj => ?_⟩
    have hjn := below listed inv hr j hj
    refine ⟨hjn, ?_⟩
    by_cases hji : j = i
    · subst hji; exact hy.qOp hi H
    · have := hdone _ _ H j (ready_mono hj hji)
      omega
  | succ f ih =>
    intro listed a inv hfree hr hy H
    refine ⟨fun h => (by rw [h] at hr; cases hr), fun j hj => ?_⟩
    have hjn := below listed inv hr j hj
    refine ⟨hjn, ?_⟩
    by_cases hji : j = i
    · subst hji; exact hy.qOp hi H
    · have h1 := (H.2 j (ready_mono hj hji)).2
      obtain ⟨hjun, oj, hoj, hall⟩ := mem_ready.1 hj
      have hnot : ∀ e ∈ oj.after, Region.binds md e = true → e.on ≠ i := fun e he hb heq => by
        have h1 := hall e he hb
        rw [heq, getD_both (mem_ready.1 hr).1] at h1
        cases h1
      have h2 := qOp_put hoj (hfree j oj hoj hji hjun hnot) (fun cs b => hsel i oi cs b hi) (fun cs b => hsel j oj cs b hoj) hy h1
      have hfree' : ∀ k ok, ops[k]? = some ok → k ≠ i → (listed.setIfInBounds j true).getD k true = false →
          (∀ e ∈ ok.after, Region.binds md e = true → e.on ≠ i) → oi.apart ops ok = true := fun k ok hk hki hun hno => by
        refine hfree k ok hk hki ?_ hno
        by_cases hjk : j = k
        · subst hjk; exact hjun
        · rw [getD_set_ne true hjk] at hun; exact hun
      refine qOp_mono (fun a' h3 => ih (listed.setIfInBounds j true) a' (inv.set hj hjn) hfree' (ready_mono hr (Ne.symm hji)) h3.1 ?_) h2
      rw [Array.setIfInBounds_comm _ _ hji]
      exact h3.2

theorem HeadAny.lex2 {n g : Nat} {Lq : Act → Prop} (hsel : Region.noSelect ops = true) (hT : ∀ listed, HeadInv md ops n listed → ∀ i, i < n → listed.getD i true = false → ∀ t, n ≤ t → t ∉ Region.ready md ops listed) :
    ∀ (l : List Oper) (k : Nat) (listed : Array Bool) (a : Act), (∀ j, j < l.length → l[j]? = ops[k + j]?) → k + l.length = n → HeadInv md ops n listed →
    Region.lexHeadM md ops g l.length k listed = true → wpQuiet P ops C Lq l a →
    HeadAny P md ops C n (fun listed' a' => Region.midB md ops g n listed' = true ∧ Lq a') l.length listed a
  | [], k, listed, a, _, hk, _, hB, h => by
    have : k = n := by simpa using hk
    subst this
    exact ⟨by simpa [Region.lexHeadM] using hB, h⟩
  | o :: l, k, listed, a, hl, hk, inv, hB, h => by
    have h0 : ops[k]? = some o := by simpa using (hl 0 (by simp)).symm
    simp only [List.length_cons, Region.lexHeadM, Bool.and_eq_true] at hB
    obtain ⟨⟨hr, hf⟩, hB'⟩ := hB
    have hkn : k < n := by simp only [List.length_cons] at hk; omega
    have hr' : k ∈ Region.ready md ops listed := by simpa using hr
    have hst : qOp P ops C k (wpQuiet P ops C Lq l) a := by unfold qOp; simp only [h0]; exact h
    obtain ⟨v, hy, hK⟩ := yieldsIn_of_qOp h0 hst
    exact HeadAny.first2 h0 (Region.noSelect_spec hsel) hT hkn (fun listed' a' hL => midB_ready hL.1) l.length listed a inv (Region.free_spec h0 hf) hr' hy
      (HeadAny.lex2 hsel hT l (k + 1) _ _ (fun j hj => by have := hl (j + 1) (by simp; omega); simpa [Nat.add_assoc, Nat.add_comm 1 j] using this) (by simp only [List.length_cons] at hk; omega) (inv.set hr' hkn) hB' hK)

/-- What is left behind the operation. -/
def MidK (P : Program) (ops : Array Oper) (Q : Exit → Act → World → Prop) (rest : List Oper) (a : Act) (w : World) : Prop :=
  wpQuiet P ops (fun w' => ∃ p : Regrown, w' = Sort.grow (redrawn w p.d) p.os) (fun a' => ∀ w', Below w.heap.size w w' → Q .normal a' w') rest a

theorem wp_region_mid {id : Nat} {Q : Exit → Act → World → Prop} {a : Act} {w : World} {l : List Oper} (n : Nat) (o : Oper) (rest : List Oper) (hm : P.follows .mixedOrders = true) (hB : Region.lexMidB .any l.toArray n = true)
    (hd : l.drop n = o :: rest) (hg : o.guard = none) (hC : C { w with drawn := w.drawn + 1 })
    (h : wpQuiet P l.toArray C (fun a' => ∀ w', C w' → o.wp P a' w' (MidK P l.toArray Q rest) Q) (l.take n) a) : (Code.region id l.toArray true).wp P Q a w := by
  simp only [Region.lexMidB, Bool.and_eq_true, decide_eq_true_eq] at hB
  obtain ⟨⟨⟨⟨hsel, hn⟩, hs⟩, hc⟩, hlex⟩ := hB
  have hn' : n < l.length := by simpa using hn
  have htl : (l.take n).length = n := by simp; omega
  have hrl : rest.length = l.toArray.size - (n + 1) := by
    have := congrArg List.length hd
    simp at this
    simp
    omega
  have hT : ∀ listed, HeadInv .any l.toArray n listed → ∀ i, i < n → listed.getD i true = false → ∀ t, n ≤ t → t ∉ Region.ready .any l.toArray listed := fun listed inv i hi hu t ht => tail_waits2 hs hc hn inv _ i rfl hi hu t ht
  have inv0 : HeadInv .any l.toArray n (Array.replicate l.toArray.size false) :=
    ⟨by simp, fun j oj _ hl => (by rw [getD_replicate_false] at hl; cases hl), fun t _ ht => getD_in (by simpa using ht) (getD_replicate_false _ _)⟩
  have H := HeadAny.lex2 (md := .any) (g := l.toArray.size - (n + 1)) hsel hT (l.take n) 0 _ a (fun j hj => by
    have hj' : j < n := by rw [htl] at hj; exact hj
    simp [hj']) (by simpa using htl) inv0 (by rw [htl]; exact hlex) h
  refine wp_region_any hm ?_
  have := HeadAny.any (Q' := Q) (g := l.toArray.size - (n + 1) + 1) (fun listed a' w' hw' hL => by
    obtain ⟨hL1, hL2⟩ := hL
    simp only [Region.midB, Bool.and_eq_true, decide_eq_true_eq] at hL1
    refine ⟨fun h0 => (by rw [hL1.1] at h0; cases h0), fun i hi => ?_⟩
    rw [hL1.1] at hi
    have hin : i = n := by simpa using hi
    subst hin
    have ho : l.toArray[i]? = some o := by
      have := congrArg (fun z => z[0]?) hd
      simpa [List.getElem?_drop] using this
    unfold wpOp
    simp only [ho]
    have hw : Region.wanted o (yielded l.toArray a'.tmps) = true := by simp [Region.wanted, hg]
    rw [if_pos hw]
    refine .inl (Oper.wp_mono (fun a2 w2 hK => ?_) (hL2 w' hw'))
    refine wpAny_of_quiet (md := .any) (C := fun w' => ∃ p : Regrown, w' = Sort.grow (redrawn w2 p.d) p.os) (Q := fun a' => ∀ w', Below w2.heap.size w2 w' → Q .normal a' w') (fun a3 w3 hw3 h3 => ?_) _ _ _ _ ⟨⟨w2.drawn, #[]⟩, by rw [Sort.grow_empty]; rfl⟩ ?_
    · obtain ⟨p, rfl⟩ := hw3
      exact h3 _ (below_regrown w2 p.d p.os)
    · have := wpAnyQ_lex (C := fun w' => ∃ p : Regrown, w' = Sort.grow (redrawn w2 p.d) p.os) (md := .any) hsel rest (i + 1) (listed.setIfInBounds i true) a2 (fun j => by
        have := congrArg (fun z => z[j + 1]?) hd
        simp [List.getElem?_drop] at this
        simp [← this, Nat.add_assoc, Nat.add_comm 1 j]) (by rw [hrl]; exact hL1.2) hK
      rw [hrl] at this
      exact this) _ _ _ _ hC H
  rw [htl, show n + (l.toArray.size - (n + 1) + 1) = l.toArray.size by simp; omega] at this
  exact this
end

/-- At the class: what was there has not turned. -/
theorem wp_mid {P : Program} {id : Nat} {Q : Exit → Act → World → Prop} {a : Act} {w : World} {l : List Oper} (n : Nat) (o : Oper) (rest : List Oper) (hm : P.follows .mixedOrders = true) (hB : Region.lexMidB .any l.toArray n = true)
    (hd : l.drop n = o :: rest) (hg : o.guard = none)
    (h : wpQuiet P l.toArray (fun w' => ∃ p : Regrown, w' = Sort.grow (redrawn w p.d) p.os) (fun a' => ∀ w', Below w.heap.size w w' → o.wp P a' w' (MidK P l.toArray Q rest) Q) (l.take n) a) : (Code.region id l.toArray true).wp P Q a w :=
  wp_region_mid (C := fun w' => ∃ p : Regrown, w' = Sort.grow (redrawn w p.d) p.os) n o rest hm hB hd hg ⟨⟨w.drawn + 1, #[]⟩, by rw [Sort.grow_empty]; rfl⟩ (by
    have : (fun a' => ∀ w', Below w.heap.size w w' → o.wp P a' w' (MidK P l.toArray Q rest) Q) = (fun a' => ∀ w', (∃ p : Regrown, w' = Sort.grow (redrawn w p.d) p.os) → o.wp P a' w' (MidK P l.toArray Q rest) Q) := by
      funext a'
      refine propext ⟨fun h w' hw' => ?_, fun h w' hw' => h w' (regrown_of_below hw')⟩
      obtain ⟨p, rfl⟩ := hw'
      exact h _ (below_regrown w p.d p.os)
    rw [← this]; exact h)
end Go.Proofs.YtcomnpmkedabeaaDoor

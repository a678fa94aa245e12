/- Texts of this claim, joined: FenMath, Tail, Rect, Floor. -/
import Derived.Test.YtfnflgcalhiamaaPackSz1
import Derived.Deep.Quiet
import Derived.StillTail
/- Partial sums by lowest set bits: plain. -/
set_option linter.unusedVariables false
set_option linter.unusedSimpArgs false
namespace Go.Proofs.Ytfnflgcalhiamaa

/-- The lowest set bit. -/
def lb (n : Nat) : Nat := n - (n &&& (n - 1))
theorem lb_bd {n : Nat} (h : 1 ≤ n) (h2 : n ≤ 1024) : 1 ≤ lb n ∧ lb n ≤ n := by
  have k : ∀ n, n < 1025 → 1 ≤ n → 1 ≤ lb n ∧ lb n ≤ n := by decide +kernel
  exact k n (by omega) h
theorem lb_and {n : Nat} (h : 1 ≤ n) (h2 : n ≤ 1024) : n &&& (n - 1) = n - lb n := by
  have k : ∀ n, n < 1025 → 1 ≤ n → n &&& (n - 1) = n - lb n := by decide +kernel
  exact k n (by omega) h
/-- Odd and even. -/
theorem lb_ahead {n : Nat} (h : 1 ≤ n) (h2 : n ≤ 1024) : n - lb n = n - 1 ∨ (1 ≤ n - 1 ∧ n - 1 + lb (n - 1) = n) := by
  have k : ∀ n, n < 1025 → 1 ≤ n → n - lb n = n - 1 ∨ (1 ≤ n - 1 ∧ n - 1 + lb (n - 1) = n) := by decide +kernel
  exact k n (by omega) h
theorem lb_par {n : Nat} (h : 1 ≤ n) (h2 : n ≤ 1024) : 2 * lb n ≤ lb (n + lb n) ∧ lb (n + lb n) ≤ n + lb n := by
  have k : ∀ n, n < 1025 → 1 ≤ n → 2 * lb n ≤ lb (n + lb n) ∧ lb (n + lb n) ≤ n + lb n := by decide +kernel
  exact k n (by omega) h
theorem lb_kid {n : Nat} (h : 1 ≤ n) (h2 : n ≤ 1024) : n - lb n = n + lb n - lb (n + lb n) ∨ (1 ≤ n - lb n ∧ n - lb n + lb (n - lb n) = n + lb n) := by
  have k : ∀ n, n < 1025 → 1 ≤ n → n - lb n = n + lb n - lb (n + lb n) ∨ (1 ≤ n - lb n ∧ n - lb n + lb (n - lb n) = n + lb n) := by decide +kernel
  exact k n (by omega) h
/-- What lies within. -/
theorem lb_in {q x : Nat} (h : 1 ≤ q) (hq : q < x) (h2 : x ≤ 1024) (hi : x - lb x < q) : q + lb q ≤ x ∧ x - lb x ≤ q - lb q := by
  have k : ∀ x, x < 1025 → ∀ d, d < lb x → 1 ≤ d → x - d + lb (x - d) ≤ x ∧ x - lb x ≤ x - d - lb (x - d) := by decide +kernel
  have b := lb_bd (n := x) (by omega) h2
  have := k x (by omega) (x - q) (by omega) (by omega)
  rw [show x - (x - q) = q by omega] at this
  exact this

/-- The sum of the first n. -/
def pre (a : Nat → Int) : Nat → Int
  | 0 => 0
  | n + 1 => pre a n + a (n + 1)
/-- The partial sum at n. -/
def part (a : Nat → Int) (n : Nat) : Int := pre a n - pre a (n - lb n)
theorem pre_congr {a b : Nat → Int} : ∀ n, (∀ i, 1 ≤ i → i ≤ n → a i = b i) → pre a n = pre b n
  | 0, _ => rfl
  | n + 1, h => by
    show pre a n + a (n + 1) = pre b n + b (n + 1)
    rw [pre_congr n (fun i h1 h2 => h i h1 (by omega)), h (n + 1) (by omega) (Nat.le_refl _)]
theorem part_congr {a b : Nat → Int} {n : Nat} (h : ∀ i, 1 ≤ i → i ≤ n → a i = b i) : part a n = part b n := by
  unfold part
  rw [pre_congr n h, pre_congr (n - lb n) (fun i h1 h2 => h i h1 (by omega))]
theorem pre_sub (a b : Nat → Int) : ∀ n, pre (fun i => a i - b i) n = pre a n - pre b n
  | 0 => rfl
  | n + 1 => by
    show pre (fun i => a i - b i) n + (a (n + 1) - b (n + 1)) = pre a n + a (n + 1) - (pre b n + b (n + 1))
    rw [pre_sub a b n]; omega
theorem part_sub (a b : Nat → Int) (n : Nat) : part (fun i => a i - b i) n = part a n - part b n := by
  unfold part
  rw [pre_sub, pre_sub]; omega
theorem pre_bd {a : Nat → Int} {A : Int} (hA : 0 ≤ A) : ∀ n, (∀ i, 1 ≤ i → i ≤ n → -A ≤ a i ∧ a i ≤ A) → -(A * (n : Int)) ≤ pre a n ∧ pre a n ≤ A * (n : Int)
  | 0, _ => by show -(A * ((0 : Nat) : Int)) ≤ 0 ∧ 0 ≤ A * ((0 : Nat) : Int); simp
  | n + 1, h => by
    have h1 := pre_bd hA n (fun i a1 a2 => h i a1 (by omega))
    have h2 := h (n + 1) (by omega) (Nat.le_refl _)
    show _ ≤ pre a n + a (n + 1) ∧ pre a n + a (n + 1) ≤ _
    push_cast
    rw [Int.mul_add, Int.mul_one]
    omega
/-- Some, one behind the other. -/
theorem pre_diff {a : Nat → Int} {A : Int} (hA : 0 ≤ A) {m n : Nat} (hm : m ≤ n) (h : ∀ i, 1 ≤ i → i ≤ n → -A ≤ a i ∧ a i ≤ A) : -(A * ((n - m : Nat) : Int)) ≤ pre a n - pre a m ∧ pre a n - pre a m ≤ A * ((n - m : Nat) : Int) := by
  induction n with
  | zero =>
    have : m = 0 := by omega
    subst this
    simp
  | succ n ih =>
    by_cases e : m = n + 1
    · subst e; simp
    · have h1 := ih (by omega) (fun i a1 a2 => h i a1 (by omega))
      have h2 := h (n + 1) (by omega) (Nat.le_refl _)
      have e2 : ((n + 1 - m : Nat) : Int) = ((n - m : Nat) : Int) + 1 := by omega
      rw [e2, Int.mul_add, Int.mul_one]
      show _ ≤ pre a n + a (n + 1) - pre a m ∧ pre a n + a (n + 1) - pre a m ≤ _
      omega

/-- The places' values, the first j handed on. -/
def valA (a : Nat → Int) : Nat → Nat → Int
  | 0, p => a p
  | j + 1, p => if j + 1 + lb (j + 1) = p then valA a j p + valA a j (j + 1) else valA a j p
theorem valA_succ (a : Nat → Int) (j p : Nat) : valA a (j + 1) p = if j + 1 + lb (j + 1) = p then valA a j p + valA a j (j + 1) else valA a j p := rfl
/-- Up to where a place is full. -/
def cov : Nat → Nat → Nat
  | 0, p => p - lb p
  | j + 1, p => if j + 1 + lb (j + 1) = p then j + 1 else cov j p
theorem cov_none {p c : Nat} : ∀ j, c ≤ j → (∀ i, c < i → i ≤ j → i + lb i ≠ p) → cov j p = cov c p
  | 0, h, _ => by rw [show c = 0 by omega]
  | j + 1, h, hn => by
    by_cases e : c = j + 1
    · rw [e]
    · show (if j + 1 + lb (j + 1) = p then j + 1 else cov j p) = _
      rw [if_neg (hn (j + 1) (by omega) (Nat.le_refl _))]
      exact cov_none j (by omega) (fun i h1 h2 => hn i h1 (by omega))
theorem cov_at {p c : Nat} (hc : 1 ≤ c) (h : c + lb c = p) : cov c p = c := by
  obtain ⟨m, rfl⟩ : ∃ m, c = m + 1 := ⟨c - 1, by omega⟩
  show (if m + 1 + lb (m + 1) = p then m + 1 else cov m p) = _
  rw [if_pos h]
/-- Ahead of itself a place is full. -/
theorem cov_self {x : Nat} (h : 1 ≤ x) (h2 : x ≤ 1024) : cov (x - 1) x = x - 1 := by
  rcases lb_ahead h h2 with e | ⟨e1, e2⟩
  · have hn : ∀ i, 0 < i → i ≤ x - 1 → i + lb i ≠ x := fun i h3 h4 hp => by
      have k := lb_par (n := i) h3 (by omega)
      rw [hp] at k
      have b := lb_bd (n := i) h3 (by omega)
      have b2 := lb_bd h h2
      omega
    rw [cov_none (c := 0) (x - 1) (by omega) hn]
    exact e
  · exact cov_at e1 e2
theorem cov_step {x p : Nat} (h : 1 ≤ x) (h2 : x ≤ 1024) (hp : x + lb x = p) (hp2 : p ≤ 1024) : cov (x - 1) p = x - lb x := by
  have bx := lb_bd h h2
  have bp := lb_par h h2
  rw [hp] at bp
  have hn : ∀ i, x - lb x < i → i ≤ x - 1 → i + lb i ≠ p := fun i h3 h4 hpp => by
    have := lb_in (q := i) (x := x) (by omega) (by omega) h2 h3
    omega
  rw [cov_none (c := x - lb x) (x - 1) (by omega) hn]
  rcases lb_kid h h2 with e | ⟨e1, e2⟩
  · rw [hp] at e
    have hn2 : ∀ i, 0 < i → i ≤ x - lb x → i + lb i ≠ p := fun i h3 h4 hpp => by
      have k := lb_par (n := i) h3 (by omega)
      rw [hpp] at k
      omega
    rw [cov_none (c := 0) (x - lb x) (by omega) hn2]
    show p - lb p = _
    omega
  · rw [hp] at e2
    exact cov_at e1 e2
theorem valA_eq (a : Nat → Int) : ∀ (j p : Nat), j < p → p ≤ 1024 → valA a j p = a p + pre a (cov j p) - pre a (p - lb p)
  | 0, p, h, h2 => by
    show a p = a p + pre a (p - lb p) - pre a (p - lb p)
    omega
  | j + 1, p, h, h2 => by
    rw [valA_succ]
    by_cases hp : j + 1 + lb (j + 1) = p
    · rw [if_pos hp, valA_eq a j p (by omega) h2, valA_eq a j (j + 1) (by omega) (by omega)]
      have e1 := cov_step (x := j + 1) (by omega) (by omega) hp h2
      have e2 := cov_self (x := j + 1) (by omega) (by omega)
      rw [show j + 1 - 1 = j by omega] at e1 e2
      rw [e1, e2, cov_at (by omega) hp]
      have : pre a (j + 1) = pre a j + a (j + 1) := rfl
      omega
    · rw [if_neg hp, valA_eq a j p (by omega) h2]
      show _ = a p + pre a (if j + 1 + lb (j + 1) = p then j + 1 else cov j p) - _
      rw [if_neg hp]
theorem valA_done (a : Nat → Int) {p : Nat} (h1 : 1 ≤ p) (h2 : p ≤ 1024) : ∀ j, p - 1 ≤ j → valA a j p = part a p
  | 0, h => by
    have : p = 1 := by omega
    subst this
    rw [valA_eq a 0 1 (by omega) (by omega)]
    show _ = pre a 1 - pre a (1 - lb 1)
    have e : cov 0 1 = 1 - lb 1 := rfl
    have l : lb 1 = 1 := by decide
    rw [e, l]
    show a 1 + 0 - 0 = 0 + a 1 - 0
    omega
  | j + 1, h => by
    by_cases e : j + 1 < p
    · have e3 : j + 1 = p - 1 := by omega
      rw [e3, valA_eq a (p - 1) p (by omega) h2, cov_self h1 h2]
      unfold part
      obtain ⟨m, rfl⟩ : ∃ m, p = m + 1 := ⟨p - 1, by omega⟩
      rw [show m + 1 - 1 = m by omega]
      have : pre a (m + 1) = pre a m + a (m + 1) := rfl
      omega
    · rw [valA_succ, if_neg (by
        intro hp
        have : 1 ≤ lb (j + 1) := by
          rcases Nat.lt_or_ge 1024 (j + 1) with hh | hh
          · omega
          · exact (lb_bd (by omega) hh).1
        omega)]
      exact valA_done a h1 h2 j (by omega)

/-- Is q among those of x? -/
def in1 (q x : Nat) : Prop := x - lb x < q ∧ q ≤ x
instance (q x : Nat) : Decidable (in1 q x) := by unfold in1; infer_instance
theorem in1_next {q x : Nat} (h : 1 ≤ q) (h2 : x ≤ 1024) : (in1 q x ∧ q < x) ↔ in1 (q + lb q) x := by
  unfold in1
  constructor
  · rintro ⟨⟨a, b⟩, c⟩
    have := lb_in h c h2 a
    have := lb_bd h (by omega)
    omega
  · rintro ⟨a, b⟩
    have k := lb_bd h (by omega)
    have kp := lb_par h (by omega)
    by_cases e : q + lb q = x
    · rw [e] at kp; omega
    · have := lb_in (q := q + lb q) (x := x) (by omega) (by omega) h2 a
      omega
theorem pre_bump {a : Nat → Int} {q : Nat} {d : Int} (hq : 1 ≤ q) : ∀ n, pre (fun i => if i = q then a i + d else a i) n = pre a n + (if q ≤ n then d else 0)
  | 0 => by
    show (0 : Int) = 0 + _
    rw [if_neg (by omega)]; rfl
  | n + 1 => by
    show pre (fun i => if i = q then a i + d else a i) n + (if n + 1 = q then a (n + 1) + d else a (n + 1)) = pre a n + a (n + 1) + _
    rw [pre_bump hq n]
    by_cases e : n + 1 = q
    · rw [if_pos e, if_neg (by omega), if_pos (by omega)]; omega
    · rw [if_neg e]
      by_cases e2 : q ≤ n
      · rw [if_pos e2, if_pos (by omega)]; omega
      · rw [if_neg e2, if_neg (by omega)]; omega
theorem part_bump {a : Nat → Int} {q : Nat} {d : Int} (hq : 1 ≤ q) {x : Nat} (hx : 1 ≤ x) (h2 : x ≤ 1024) : part (fun i => if i = q then a i + d else a i) x = part a x + (if in1 q x then d else 0) := by
  unfold part
  rw [pre_bump hq, pre_bump hq]
  have := lb_bd hx h2
  by_cases hh : in1 q x
  · rw [if_pos hh]
    unfold in1 at hh
    rw [if_pos (by omega), if_neg (by omega)]; omega
  · rw [if_neg hh]
    unfold in1 at hh
    by_cases e1 : q ≤ x
    · rw [if_pos e1, if_pos (by omega)]; omega
    · rw [if_neg e1, if_neg (by omega)]; omega

/-- A land's partial sums; its sums from the corner. -/
def row1 (f : Int → Int → Int) (y : Nat) (x : Nat) : Int := f ((x : Int) - 1) ((y : Int) - 1)
def fenS (f : Int → Int → Int) (x y : Nat) : Int := part (fun Y => part (row1 f Y) x) y
def cornS (f : Int → Int → Int) (x y : Nat) : Int := pre (fun Y => pre (row1 f Y) x) y
theorem fenS_x (f : Int → Int → Int) (x y : Nat) : fenS f x y = part (fun Y => pre (row1 f Y) x) y - part (fun Y => pre (row1 f Y) (x - lb x)) y := by
  rw [← part_sub]; rfl
theorem cornS_y (f : Int → Int → Int) (x y : Nat) : part (fun Y => pre (row1 f Y) x) y = cornS f x y - cornS f x (y - lb y) := rfl
theorem corn_cell (f : Int → Int → Int) (x y : Nat) : cornS f (x + 1) (y + 1) - cornS f x (y + 1) - cornS f (x + 1) y + cornS f x y = f x y := by
  unfold cornS
  have e : ∀ k, pre (fun Y => pre (row1 f Y) k) (y + 1) = pre (fun Y => pre (row1 f Y) k) y + pre (row1 f (y + 1)) k := fun k => rfl
  rw [e, e]
  have e2 : pre (row1 f (y + 1)) (x + 1) = pre (row1 f (y + 1)) x + row1 f (y + 1) (x + 1) := rfl
  have e3 : row1 f (y + 1) (x + 1) = f x y := by
    unfold row1
    rw [show ((x + 1 : Nat) : Int) - 1 = x by omega, show ((y + 1 : Nat) : Int) - 1 = y by omega]
  omega
theorem fenS_congr {f f' : Int → Int → Int} {w h : Int} (e : ∀ x y, 0 ≤ x → x < w → 0 ≤ y → y < h → f' x y = f x y) {x y : Nat} (hx : (x : Int) ≤ w) (hy : (y : Int) ≤ h) : fenS f' x y = fenS f x y := by
  unfold fenS
  refine part_congr (fun Y h1 h2 => part_congr (fun X h3 h4 => ?_))
  unfold row1
  exact e _ _ (by omega) (by omega) (by omega) (by omega)
end Go.Proofs.Ytfnflgcalhiamaa
/- A region that draws its order, whose operations up to the n-th only read (or call what leaves all that was there), and whose last ones come in one forced order: one walk of the text's order serves every order; the head in any world of a class, the tail from whatever world of it. -/
set_option linter.unusedVariables false
namespace Go.Proofs.Ytfnflgcalhiamaa
open Go.RowKit
section
variable {P : Program} {ops : Array Oper} {md : Region.Mode} {C : World → Prop}

/-- Whatever order the head is in, till L. -/
def HeadAny (P : Program) (md : Region.Mode) (ops : Array Oper) (C : World → Prop) (n : Nat) (L : Array Bool → Act → Prop) : Nat → Array Bool → Act → Prop
  | 0, listed, a => L listed a
  | f + 1, listed, a =>
    Region.ready md ops listed ≠ [] ∧ ∀ i ∈ Region.ready md ops listed, i < n ∧ qOp P ops C i (HeadAny P md ops C n L f (listed.setIfInBounds i true)) a

theorem HeadAny.any {n g : Nat} {L : Array Bool → Act → Prop} {Q' : Exit → Act → World → Prop} (hL : ∀ listed a w, C w → L listed a → wpAny P md ops Q' g listed a w) :
    ∀ (f : Nat) (listed : Array Bool) (a : Act) (w : World), C w → HeadAny P md ops C n L f listed a → wpAny P md ops Q' (f + g) listed a w
  | 0, listed, a, w, hw, h => by rw [Nat.zero_add]; exact hL _ _ _ hw h
  | f + 1, listed, a, w, hw, h => by
    rw [show f + 1 + g = (f + g) + 1 by omega]
    exact ⟨fun h0 => absurd h0 h.1, fun i hi => wpOp_of_qOp hw (fun a' w' hw' h' => HeadAny.any hL f _ a' w' hw' h') (h.2 i hi).2⟩

theorem HeadAny.first {n i : Nat} {oi : Oper} {v : Value} {L : Array Bool → Act → Prop} (hi : ops[i]? = some oi) (hsel : ∀ (j : Nat) (o : Oper) cs b, ops[j]? = some o → o.op ≠ .select cs b)
    (hs : Region.sinkB md ops n = true) (hc : Region.chainB md ops n = true) (hn : n < ops.size) (hin : i < n)
    (hdone : ∀ listed a, L listed a → ∀ j ∈ Region.ready md ops listed, n ≤ j) :
    ∀ (f : Nat) (listed : Array Bool) (a : Act), HeadInv md ops n listed →
      (∀ j oj, ops[j]? = some oj → j ≠ i → listed.getD j true = false → (∀ e ∈ oj.after, Region.binds md e = true → e.on ≠ i) → oi.apart ops oj = true) →
      i ∈ Region.ready md ops listed → YieldsIn P ops C oi v a →
      HeadAny P md ops C n L f (listed.setIfInBounds i true) (a.put oi.dst v) → HeadAny P md ops C n L (f + 1) listed a := by
  intro f
  have below : ∀ listed, HeadInv md ops n listed → i ∈ Region.ready md ops listed → ∀ j ∈ Region.ready md ops listed, j < n := by
    intro listed inv hr j hj
    rcases Nat.lt_or_ge j n with h | h
    · exact h
    · exact absurd hj (tail_waits hs hc hn inv _ i rfl hin (mem_ready.1 hr).1 j h)
  induction f with
  | zero =>
    intro listed a inv _ hr hy H
    refine ⟨fun h => (by rw [h] at hr; cases hr), fun j hj => ?_⟩
    have hjn := below listed inv hr j hj
    refine ⟨hjn, ?_⟩
    by_cases hji : j = i
    · subst hji; exact hy.qOp hi H
    · have := hdone _ _ H j (ready_mono hj hji)
      omega
  | succ f ih =>
    intro listed a inv hfree hr hy H
    refine ⟨fun h => (by rw [h] at hr; cases hr), fun j hj => ?_⟩
    have hjn := below listed inv hr j hj
    refine ⟨hjn, ?_⟩
    by_cases hji : j = i
    · subst hji; exact hy.qOp hi H
    · have h1 := (H.2 j (ready_mono hj hji)).2
      obtain ⟨hjun, oj, hoj, hall⟩ := mem_ready.1 hj
      have hnot : ∀ e ∈ oj.after, Region.binds md e = true → e.on ≠ i := fun e he hb heq => by
        have h1 := hall e he hb
        rw [heq, getD_both (mem_ready.1 hr).1] at h1
        cases h1
      have h2 := qOp_put hoj (hfree j oj hoj hji hjun hnot) (fun cs b => hsel i oi cs b hi) (fun cs b => hsel j oj cs b hoj) hy h1
      have hfree' : ∀ k ok, ops[k]? = some ok → k ≠ i → (listed.setIfInBounds j true).getD k true = false →
          (∀ e ∈ ok.after, Region.binds md e = true → e.on ≠ i) → oi.apart ops ok = true := fun k ok hk hki hun hno => by
        refine hfree k ok hk hki ?_ hno
        by_cases hjk : j = k
        · subst hjk; exact hjun
        · rw [getD_set_ne true hjk] at hun; exact hun
      refine qOp_mono (fun a' h3 => ih (listed.setIfInBounds j true) a' (inv.set hj hjn) hfree' (ready_mono hr (Ne.symm hji)) h3.1 ?_) h2
      rw [Array.setIfInBounds_comm _ _ hji]
      exact h3.2

theorem HeadAny.lex {n g : Nat} {Lq : Act → Prop} (hsel : Region.noSelect ops = true) (hs : Region.sinkB md ops n = true) (hc : Region.chainB md ops n = true) (hn : n < ops.size) :
    ∀ (l : List Oper) (k : Nat) (listed : Array Bool) (a : Act), (∀ j, j < l.length → l[j]? = ops[k + j]?) → k + l.length = n → HeadInv md ops n listed →
    Region.lexHead md ops g l.length k listed = true → wpQuiet P ops C Lq l a →
    HeadAny P md ops C n (fun listed' a' => Region.seqB md ops g n listed' = true ∧ Lq a') l.length listed a
  | [], k, listed, a, _, hk, _, hB, h => by
    have : k = n := by simpa using hk
    subst this
    exact ⟨by simpa [Region.lexHead] using hB, h⟩
  | o :: l, k, listed, a, hl, hk, inv, hB, h => by
    have h0 : ops[k]? = some o := by simpa using (hl 0 (by simp)).symm
    simp only [List.length_cons, Region.lexHead, Bool.and_eq_true] at hB
    obtain ⟨⟨hr, hf⟩, hB'⟩ := hB
    have hkn : k < n := by simp only [List.length_cons] at hk; omega
    have hr' : k ∈ Region.ready md ops listed := by simpa using hr
    have hst : qOp P ops C k (wpQuiet P ops C Lq l) a := by unfold qOp; simp only [h0]; exact h
    obtain ⟨v, hy, hK⟩ := yieldsIn_of_qOp h0 hst
    exact HeadAny.first h0 (Region.noSelect_spec hsel) hs hc hn hkn (fun listed' a' hL => seqB_ready hL.1) l.length listed a inv (Region.free_spec h0 hf) hr' hy
      (HeadAny.lex hsel hs hc hn l (k + 1) _ _ (fun j hj => by have := hl (j + 1) (by simp; omega); simpa [Nat.add_assoc, Nat.add_comm 1 j] using this) (by simp only [List.length_cons] at hk; omega) (inv.set hr' hkn) hB' hK)

theorem wp_region_tail {id : Nat} {Q : Exit → Act → World → Prop} {a : Act} {w : World} {l : List Oper} (n : Nat) (hm : P.follows .mixedOrders = true) (hB : Region.lexTailB .any l.toArray n = true) (hC : C { w with drawn := w.drawn + 1 })
    (h : wpQuiet P l.toArray C (fun a' => ∀ w', C w' → wpList P l.toArray Q (l.drop n) a' w') (l.take n) a) : (Code.region id l.toArray true).wp P Q a w := by
  simp only [Region.lexTailB, Bool.and_eq_true, decide_eq_true_eq] at hB
  obtain ⟨⟨⟨⟨hsel, hn⟩, hs⟩, hc⟩, hlex⟩ := hB
  have hn' : n < l.length := by simpa using hn
  have htl : (l.take n).length = n := by simp; omega
  have hdl : (l.drop n).length = l.toArray.size - n := by simp
  have inv0 : HeadInv .any l.toArray n (Array.replicate l.toArray.size false) :=
    ⟨by simp, fun j oj _ hl => (by rw [getD_replicate_false] at hl; cases hl), fun t _ ht => getD_in (by simpa using ht) (getD_replicate_false _ _)⟩
  have H := HeadAny.lex (md := .any) (g := l.toArray.size - n) hsel hs hc hn (l.take n) 0 _ a (fun j hj => by
    have hj' : j < n := by rw [htl] at hj; exact hj
    simp [hj']) (by simpa using htl) inv0 (by rw [htl]; exact hlex) h
  refine wp_region_any hm ?_
  have := HeadAny.any (Q' := Q) (g := l.toArray.size - n) (fun listed a' w' hw' hL => by
    have := wpAny_of_seq (md := .any) (Q' := Q) (l.drop n) n listed a' w' (fun j => by simp [List.getElem?_drop]) (by rw [hdl]; exact hL.1) (hL.2 w' hw')
    rwa [hdl] at this) _ _ _ _ hC H
  rw [htl, show n + (l.toArray.size - n) = l.toArray.size by omega] at this
  exact this
end

/-- At the class: what was there has not turned. The head. -/
theorem wp_tail {P : Program} {id : Nat} {Q : Exit → Act → World → Prop} {a : Act} {w : World} {l : List Oper} (n : Nat) (hm : P.follows .mixedOrders = true) (hB : Region.lexTailB .any l.toArray n = true)
    (h : wpQuiet P l.toArray (fun w' => ∃ p : Regrown, w' = Sort.grow (redrawn w p.d) p.os) (fun a' => ∀ w', Below w.heap.size w w' → wpList P l.toArray Q (l.drop n) a' w') (l.take n) a) : (Code.region id l.toArray true).wp P Q a w :=
  wp_region_tail (C := fun w' => ∃ p : Regrown, w' = Sort.grow (redrawn w p.d) p.os) n hm hB ⟨⟨w.drawn + 1, #[]⟩, by rw [Sort.grow_empty]; rfl⟩ (by
    have : (fun a' => ∀ w', Below w.heap.size w w' → wpList P l.toArray Q (l.drop n) a' w') = (fun a' => ∀ w', (∃ p : Regrown, w' = Sort.grow (redrawn w p.d) p.os) → wpList P l.toArray Q (l.drop n) a' w') := by
      funext a'
      refine propext ⟨fun h w' hw' => ?_, fun h w' hw' => h w' (regrown_of_below hw')⟩
      obtain ⟨p, rfl⟩ := hw'
      exact h _ (below_regrown w p.d p.os)
    rw [← this]; exact h)
/-- The whole region reads. -/
theorem wp_quiet {P : Program} {id : Nat} {Q : Exit → Act → World → Prop} {a : Act} {w : World} {l : List Oper} (hm : P.follows .mixedOrders = true) (hB : Region.lexB .any l.toArray = true)
    (h : wpQuiet P l.toArray (fun w' => ∃ p : Regrown, w' = Sort.grow (redrawn w p.d) p.os) (fun a' => ∀ w', Below w.heap.size w w' → Q .normal a' w') l a) : (Code.region id l.toArray true).wp P Q a w :=
  wp_region_quiet_below hm hB (by
    have : (fun a' => ∀ w', Below w.heap.size w w' → Q .normal a' w') = (fun a' => ∀ w', (∃ p : Regrown, w' = Sort.grow (redrawn w p.d) p.os) → Q .normal a' w') := by
      funext a'
      refine propext ⟨fun h w' hw' => ?_, fun h w' hw' => h w' (regrown_of_below hw')⟩
      obtain ⟨p, rfl⟩ := hw'
      exact h _ (below_regrown w p.d p.os)
    rw [← this]; exact h)
/-- A callee that leaves what was there, met in a world of the class. -/
theorem Calls.quiet {P : Program} {f : FuncId} {args : Array Value} {w : World} {p : Regrown} {v : Value}
    (h : Calls P f args (Sort.grow (redrawn w p.d) p.os) fun e w' => e = .returned v ∧ Below (Sort.grow (redrawn w p.d) p.os).heap.size (Sort.grow (redrawn w p.d) p.os) w') : Calls P f args (Sort.grow (redrawn w p.d) p.os) fun e w'' => e = .returned v ∧ ∃ p : Regrown, w'' = Sort.grow (redrawn w p.d) p.os :=
  Calls.regrown_of h
/-- The cells of a known block, in every world of the class. -/
theorem cells_q {w : World} {b : Nat} {cs : Array Value} {t : TypeId} {fr : Nat × Nat} (h : w.heap[b]? = some (.cells cs t fr)) (i : Nat) {v : Value} (hv : cs[i]? = some v) (d : Nat) (os : Array Obj) : (Sort.grow (redrawn w d) os).cell? ⟨b, i, none⟩ = some v :=
  cell_regrown ((blk_cell h i).trans hv) d os
end Go.Proofs.Ytfnflgcalhiamaa
/- Contracts of package rect. -/
set_option linter.unusedVariables false
set_option linter.unusedSimpArgs false
namespace Go.Proofs.Ytfnflgcalhiamaa
open Go.RowKit

theorem inside_any (n e : Int) (w : World) :
    Calls Try.prog 54 #[.int .i64 n, .int .i64 e] w fun r w' => r = .returned (.bool (decide (0 ≤ n ∧ n < e))) ∧ w = w' := by
  go_enter Try.func54, Try.ntmps54
  by_cases h : 0 ≤ n
  · have h1 : decide (0 ≤ n) = true := decide_eq_true h
    by_cases h2 : n < e
    · go_wp2; go_ret; exact ⟨by simp [h, h2], rfl⟩
    · go_wp2; go_ret; exact ⟨by simp [h, h2], rfl⟩
  · have h1 : decide (0 ≤ n) = false := decide_eq_false h
    go_wp2; go_ret; exact ⟨by simp [h], rfl⟩
theorem inside_yes (n e : Int) (w : World) (h0 : 0 ≤ n) (h1 : n < e) :
    Calls Try.prog 54 #[.int .i64 n, .int .i64 e] w fun r w' => r = .returned (.bool true) ∧ w = w' :=
  (inside_any n e w).mono fun _ _ h => by simpa [h0, h1] using h
theorem inside_no (n e : Int) (w : World) (h : n < 0 ∨ e ≤ n) :
    Calls Try.prog 54 #[.int .i64 n, .int .i64 e] w fun r w' => r = .returned (.bool false) ∧ w = w' :=
  (inside_any n e w).mono fun _ _ hh => by
    have : ¬ (0 ≤ n ∧ n < e) := by omega
    simpa [this] using hh

/-- The code of a rectangle in a grid whose size can be. -/
def withinC (x0 y0 x1 y1 W H : Int) : Int :=
  if 0 ≤ x0 ∧ x0 < W ∧ 0 ≤ x1 ∧ x1 < W ∧ 0 ≤ y0 ∧ y0 < H ∧ 0 ≤ y1 ∧ y1 < H then (if x0 ≤ x1 ∧ y0 ≤ y1 then 0 else 5) else 4

theorem withinC_ok {x0 y0 x1 y1 W H : Int} : withinC x0 y0 x1 y1 W H = 0 ↔ (0 ≤ x0 ∧ x0 ≤ x1 ∧ x1 < W ∧ 0 ≤ y0 ∧ y0 ≤ y1 ∧ y1 < H) := by
  unfold withinC
  constructor
  · intro h
    split at h
    · split at h
      · omega
      · simp at h
    · simp at h
  · intro h
    rw [if_pos (by omega), if_pos (by omega)]

set_option maxHeartbeats 1000000 in
theorem within_ok (x0 y0 x1 y1 W H : Int) (w : World) (hW : 1 ≤ W) (hW' : W ≤ 1024) (hH : 1 ≤ H) (hH' : H ≤ 1024) (h0 : 0 ≤ x0) (h1 : x0 ≤ x1) (h2 : x1 < W) (h3 : 0 ≤ y0) (h4 : y0 ≤ y1) (h5 : y1 < H) :
    Calls Try.prog 43 #[.agg #[.int .i64 x0, .int .i64 y0, .int .i64 x1, .int .i64 y1], .int .i64 W, .int .i64 H] w fun r w' => r = .returned (.int .i64 0) ∧ Below w.heap.size w w' := by
  have q1 : decide (x1 < x0) = false := decide_eq_false (by omega)
  have q2 : decide (y1 < y0) = false := decide_eq_false (by omega)
  go_enter Try.func43, Try.ntmps43
  go_wp2_with (go_at_call 54; refine (inside_yes _ _ _ (by omega) (by omega)).mono ?_; rintro e w' ⟨rfl, rfl⟩)
  go_ret
  exact ⟨rfl, below_alloc1 _ _⟩

set_option maxHeartbeats 1000000 in
theorem within_turned (x0 y0 x1 y1 W H : Int) (w : World) (hW : 1 ≤ W) (hW' : W ≤ 1024) (hH : 1 ≤ H) (hH' : H ≤ 1024) (h0 : 0 ≤ x0) (h1 : x0 < W) (h2 : 0 ≤ x1) (h2' : x1 < W) (h3 : 0 ≤ y0) (h3' : y0 < H) (h4 : 0 ≤ y1) (h5 : y1 < H) (ht : x1 < x0 ∨ y1 < y0) :
    Calls Try.prog 43 #[.agg #[.int .i64 x0, .int .i64 y0, .int .i64 x1, .int .i64 y1], .int .i64 W, .int .i64 H] w fun r w' => r = .returned (.int .i64 5) ∧ Below w.heap.size w w' := by
  by_cases hx : x1 < x0
  · have q1 : decide (x1 < x0) = true := decide_eq_true hx
    go_enter Try.func43, Try.ntmps43
    go_wp2_with (go_at_call 54; refine (inside_yes _ _ _ (by omega) (by omega)).mono ?_; rintro e w' ⟨rfl, rfl⟩)
    go_ret
    exact ⟨rfl, below_alloc1 _ _⟩
  · have q1 : decide (x1 < x0) = false := decide_eq_false hx
    have q2 : decide (y1 < y0) = true := decide_eq_true (by omega)
    go_enter Try.func43, Try.ntmps43
    go_wp2_with (go_at_call 54; refine (inside_yes _ _ _ (by omega) (by omega)).mono ?_; rintro e w' ⟨rfl, rfl⟩)
    go_ret
    exact ⟨rfl, below_alloc1 _ _⟩

set_option maxHeartbeats 1000000 in
theorem within_place (x0 y0 x1 y1 W H : Int) (w : World) (hW : 1 ≤ W) (hW' : W ≤ 1024) (hH : 1 ≤ H) (hH' : H ≤ 1024) (hn : ¬ (0 ≤ x0 ∧ x0 < W ∧ 0 ≤ x1 ∧ x1 < W ∧ 0 ≤ y0 ∧ y0 < H ∧ 0 ≤ y1 ∧ y1 < H)) :
    Calls Try.prog 43 #[.agg #[.int .i64 x0, .int .i64 y0, .int .i64 x1, .int .i64 y1], .int .i64 W, .int .i64 H] w fun r w' => r = .returned (.int .i64 4) ∧ Below w.heap.size w w' := by
  by_cases a0 : 0 ≤ x0 ∧ x0 < W
  · by_cases a1 : 0 ≤ x1 ∧ x1 < W
    · by_cases a2 : 0 ≤ y0 ∧ y0 < H
      · have a3 : y1 < 0 ∨ H ≤ y1 := by omega
        clear hn
        go_enter Try.func43, Try.ntmps43
        go_wp2_with (first | (go_at_call 54; refine (inside_yes _ _ _ (by omega) (by omega)).mono ?_; rintro e w' ⟨rfl, rfl⟩) | (go_at_call 54; refine (inside_no _ _ _ (by omega)).mono ?_; rintro e w' ⟨rfl, rfl⟩))
        go_ret
        exact ⟨rfl, below_alloc1 _ _⟩
      · have a3 : y0 < 0 ∨ H ≤ y0 := by omega
        clear hn a2
        go_enter Try.func43, Try.ntmps43
        go_wp2_with (first | (go_at_call 54; refine (inside_yes _ _ _ (by omega) (by omega)).mono ?_; rintro e w' ⟨rfl, rfl⟩) | (go_at_call 54; refine (inside_no _ _ _ (by omega)).mono ?_; rintro e w' ⟨rfl, rfl⟩))
        go_ret
        exact ⟨rfl, below_alloc1 _ _⟩
    · have a3 : x1 < 0 ∨ W ≤ x1 := by omega
      clear hn a1
      go_enter Try.func43, Try.ntmps43
      go_wp2_with (first | (go_at_call 54; refine (inside_yes _ _ _ (by omega) (by omega)).mono ?_; rintro e w' ⟨rfl, rfl⟩) | (go_at_call 54; refine (inside_no _ _ _ (by omega)).mono ?_; rintro e w' ⟨rfl, rfl⟩))
      go_ret
      exact ⟨rfl, below_alloc1 _ _⟩
  · have a3 : x0 < 0 ∨ W ≤ x0 := by omega
    clear hn a0
    go_enter Try.func43, Try.ntmps43
    go_wp2_with (first | (go_at_call 54; refine (inside_yes _ _ _ (by omega) (by omega)).mono ?_; rintro e w' ⟨rfl, rfl⟩) | (go_at_call 54; refine (inside_no _ _ _ (by omega)).mono ?_; rintro e w' ⟨rfl, rfl⟩))
    go_ret
    exact ⟨rfl, below_alloc1 _ _⟩

theorem within_any (x0 y0 x1 y1 W H : Int) (w : World) (hW : 1 ≤ W) (hW' : W ≤ 1024) (hH : 1 ≤ H) (hH' : H ≤ 1024) :
    Calls Try.prog 43 #[.agg #[.int .i64 x0, .int .i64 y0, .int .i64 x1, .int .i64 y1], .int .i64 W, .int .i64 H] w fun r w' => r = .returned (.int .i64 (withinC x0 y0 x1 y1 W H)) ∧ Below w.heap.size w w' := by
  by_cases h : 0 ≤ x0 ∧ x0 < W ∧ 0 ≤ x1 ∧ x1 < W ∧ 0 ≤ y0 ∧ y0 < H ∧ 0 ≤ y1 ∧ y1 < H
  · by_cases h2 : x0 ≤ x1 ∧ y0 ≤ y1
    · rw [show withinC x0 y0 x1 y1 W H = 0 from by unfold withinC; rw [if_pos h, if_pos h2]]
      exact within_ok _ _ _ _ _ _ _ hW hW' hH hH' (by omega) (by omega) (by omega) (by omega) (by omega) (by omega)
    · rw [show withinC x0 y0 x1 y1 W H = 5 from by unfold withinC; rw [if_pos h, if_neg h2]]
      exact within_turned _ _ _ _ _ _ _ hW hW' hH hH' (by omega) (by omega) (by omega) (by omega) (by omega) (by omega) (by omega) (by omega) (by omega)
  · rw [show withinC x0 y0 x1 y1 W H = 4 from by unfold withinC; rw [if_neg h]]
    exact within_place _ _ _ _ _ _ _ hW hW' hH hH' h

theorem right_any (x0 y0 x1 y1 : Int) (w : World) :
    Calls Try.prog 57 #[.agg #[.int .i64 x0, .int .i64 y0, .int .i64 x1, .int .i64 y1]] w fun r w' => r = .returned (.bool (withinC x0 y0 x1 y1 1024 1024 == 0)) ∧ Below w.heap.size w w' := by
  go_enter Try.func57, Try.ntmps57
  go_wp2_with fail
  refine (within_any _ _ _ _ _ _ _ (by omega) (by omega) (by omega) (by omega)).mono ?_
  rintro e w1 ⟨rfl, hb⟩
  go_wp2_with fail
  go_ret
  exact ⟨rfl, (below_alloc1 _ _).trans (hb.mono (by simp))⟩
theorem right_ok (x0 y0 x1 y1 : Int) (w : World) (h0 : 0 ≤ x0) (h1 : x0 ≤ x1) (h2 : x1 < 1024) (h3 : 0 ≤ y0) (h4 : y0 ≤ y1) (h5 : y1 < 1024) :
    Calls Try.prog 57 #[.agg #[.int .i64 x0, .int .i64 y0, .int .i64 x1, .int .i64 y1]] w fun r w' => r = .returned (.bool true) ∧ Below w.heap.size w w' :=
  (right_any x0 y0 x1 y1 w).mono fun e w' h => by
    rw [withinC_ok.2 ⟨h0, h1, h2, h3, h4, h5⟩] at h
    simpa using h

theorem width_any (x0 y0 x1 y1 : Int) (w : World) (h0 : 0 ≤ x0) (h1 : x0 < 2000) (h2 : 0 ≤ x1) (h3 : x1 < 2000) :
    Calls Try.prog 55 #[.agg #[.int .i64 x0, .int .i64 y0, .int .i64 x1, .int .i64 y1]] w fun r w' => r = .returned (.int .i64 (x1 - x0 + 1)) ∧ Below w.heap.size w w' := by
  go_enter Try.func55, Try.ntmps55
  go_wp2
  go_ret
  exact ⟨rfl, below_alloc1 _ _⟩

end Go.Proofs.Ytfnflgcalhiamaa
/- A quotient, rounded down; what is left; which of two slopes is more: plain, without the program's text. -/
set_option linter.unusedVariables false
set_option linter.unusedSimpArgs false
namespace Go.Proofs.Ytfnflgcalhiamaa

theorem floor_tdiv (s n : Int) (hn : 0 < n) : (if s.tmod n < 0 then s.tdiv n - 1 else s.tdiv n) = s / n := by
  have e := Int.mul_tdiv_add_tmod s n
  have b1 := Int.tmod_lt_of_pos s hn
  have b2 : -n < s.tmod n := by
    have := Int.tmod_lt_of_pos (-s) hn
    rw [Int.neg_tmod] at this
    omega
  by_cases h : s.tmod n < 0
  · rw [if_pos h]
    exact ((Int.ediv_emod_unique hn (a := s) (r := s.tmod n + n) (q := s.tdiv n - 1)).2 ⟨by rw [Int.mul_sub, Int.mul_one]; omega, by omega, by omega⟩).1.symm
  · rw [if_neg h]
    exact ((Int.ediv_emod_unique hn (a := s) (r := s.tmod n) (q := s.tdiv n)).2 ⟨by omega, by omega, by omega⟩).1.symm
theorem left_tmod (s n : Int) (hn : 0 < n) : (if s.tmod n < 0 then s.tmod n + n else s.tmod n) = s % n := by
  have e := Int.mul_tdiv_add_tmod s n
  have b1 := Int.tmod_lt_of_pos s hn
  have b2 : -n < s.tmod n := by
    have := Int.tmod_lt_of_pos (-s) hn
    rw [Int.neg_tmod] at this
    omega
  by_cases h : s.tmod n < 0
  · rw [if_pos h]
    exact ((Int.ediv_emod_unique hn (a := s) (r := s.tmod n + n) (q := s.tdiv n - 1)).2 ⟨by rw [Int.mul_sub, Int.mul_one]; omega, by omega, by omega⟩).2.symm
  · rw [if_neg h]
    exact ((Int.ediv_emod_unique hn (a := s) (r := s.tmod n) (q := s.tdiv n)).2 ⟨by omega, by omega, by omega⟩).2.symm

/-- Below, at, or above 0. -/
def sgn (n : Int) : Int := if n < 0 then -1 else if 0 < n then 1 else 0
theorem sgn_neg (n : Int) : sgn (-n) = -sgn n := by unfold sgn; split <;> split <;> (try split) <;> omega
/-- Which of a over b, c over d is more. -/
def cmpS (a b c d : Int) : Int := sgn (a * d - c * b)
theorem cmpS_bd (a b c d : Int) : -1 ≤ cmpS a b c d ∧ cmpS a b c d ≤ 1 := by unfold cmpS sgn; split <;> (try split) <;> omega
theorem cmpS_pos {a b c d : Int} : 0 < cmpS a b c d ↔ c * b < a * d := by unfold cmpS sgn; split <;> (try split) <;> omega
theorem cmp_parts (a b c d : Int) : a * d - c * b = b * d * (a / b - c / d) + (a % b * d - c % d * b) := by
  have h1 := Int.mul_ediv_add_emod a b
  have h2 := Int.mul_ediv_add_emod c d
  generalize a / b = p at *
  generalize a % b = r at *
  generalize c / d = q at *
  generalize c % d = s at *
  subst h1 h2
  grind
theorem cmp_rest {b d r s : Int} (hb : 0 < b) (hd : 0 < d) (r0 : 0 ≤ r) (r1 : r < b) (s0 : 0 ≤ s) (s1 : s < d) : -(b * d) < r * d - s * b ∧ r * d - s * b < b * d := by
  have h1 := Int.mul_le_mul_of_nonneg_right (show r + 1 ≤ b by omega) (show 0 ≤ d by omega)
  have h2 := Int.mul_le_mul_of_nonneg_right (show s + 1 ≤ d by omega) (show 0 ≤ b by omega)
  have h3 := Int.mul_nonneg r0 (show 0 ≤ d by omega)
  have h4 := Int.mul_nonneg s0 (show 0 ≤ b by omega)
  rw [Int.add_mul] at h1 h2
  rw [Int.mul_comm d b] at h2
  omega
theorem cmp_lt {a b c d : Int} (hb : 0 < b) (hd : 0 < d) (h : a / b < c / d) : cmpS a b c d = -1 := by
  have e := cmp_parts a b c d
  have k := cmp_rest hb hd (Int.emod_nonneg a (by omega)) (Int.emod_lt_of_pos a hb) (Int.emod_nonneg c (by omega)) (Int.emod_lt_of_pos c hd)
  have m := Int.mul_le_mul_of_nonneg_left (show a / b - c / d ≤ -1 by omega) (show 0 ≤ b * d from Int.mul_nonneg (by omega) (by omega))
  rw [Int.mul_neg, Int.mul_one] at m
  unfold cmpS sgn
  rw [if_pos (by omega)]
theorem cmp_gt {a b c d : Int} (hb : 0 < b) (hd : 0 < d) (h : c / d < a / b) : cmpS a b c d = 1 := by
  have e := cmp_parts a b c d
  have k := cmp_rest hb hd (Int.emod_nonneg a (by omega)) (Int.emod_lt_of_pos a hb) (Int.emod_nonneg c (by omega)) (Int.emod_lt_of_pos c hd)
  have m := Int.mul_le_mul_of_nonneg_left (show 1 ≤ a / b - c / d by omega) (show 0 ≤ b * d from Int.mul_nonneg (by omega) (by omega))
  rw [Int.mul_one] at m
  unfold cmpS sgn
  rw [if_neg (by omega), if_pos (by omega)]
theorem cmp_eq {a b c d : Int} (h : a / b = c / d) : cmpS a b c d = sgn (a % b * d - c % d * b) := by
  have e := cmp_parts a b c d
  rw [h, Int.sub_self, Int.mul_zero, Int.zero_add] at e
  unfold cmpS
  rw [e]
theorem cmp_turn {a b c d : Int} (h : a / b = c / d) : cmpS a b c d = -cmpS b (a % b) d (c % d) := by
  rw [cmp_eq h]
  unfold cmpS
  rw [← sgn_neg]
  congr 1
  rw [Int.mul_comm b, Int.mul_comm d]
  omega
/-- The product halves. -/
theorem euclid_half {a b k : Int} (hb : 0 < b) (hab : b < a) (h : a * b ≤ 2 * k) : b * (a % b) ≤ k := by
  have h0 := Int.emod_nonneg a (show b ≠ 0 by omega)
  have h1 := Int.emod_lt_of_pos a hb
  have h2 := Int.mul_ediv_add_emod a b
  have h3 : 1 ≤ a / b := (Int.le_ediv_iff_mul_le hb).2 (by omega)
  have h4 := Int.mul_le_mul_of_nonneg_left h3 (show 0 ≤ b by omega)
  have h5 : 2 * (a % b) ≤ a := by omega
  have h6 := Int.mul_le_mul_of_nonneg_left h5 (show 0 ≤ b by omega)
  rw [Int.mul_comm b a] at h6
  have : b * (2 * (a % b)) = 2 * (b * (a % b)) := by grind
  omega
end Go.Proofs.Ytfnflgcalhiamaa

/- Repairing, plain: inside a rectangle the one land, elsewhere the other; level by level. -/
import Derived.Test.YtgofkgmhpnkchaaMend
import Derived.Test.YtgofkgmhpnkchaaLay
set_option linter.unusedVariables false
set_option linter.unusedSimpArgs false
namespace Go.Proofs.Ytgofkgmhpnkchaa
open Go.RowKit

/-- Inside a rectangle the one land, elsewhere the other. -/
def mixF (x0 y0 x1 y1 : Int) (f' f : Int → Int → Int) : Int → Int → Int := fun x y => if inR x0 y0 x1 y1 x y then f' x y else f x y
theorem mix_in {x0 y0 x1 y1 x y : Int} {f' f : Int → Int → Int} (h : inR x0 y0 x1 y1 x y) : mixF x0 y0 x1 y1 f' f x y = f' x y := by unfold mixF; rw [if_pos h]
theorem mix_out {x0 y0 x1 y1 x y : Int} {f' f : Int → Int → Int} (h : ¬ inR x0 y0 x1 y1 x y) : mixF x0 y0 x1 y1 f' f x y = f x y := by unfold mixF; rw [if_neg h]
theorem mix_rng {x0 y0 x1 y1 w h x y a c : Int} {k : Nat} {f' f : Int → Int → Int}
    (H : MixR (x0 / 2 ^ k) (y0 / 2 ^ k) (x1 / 2 ^ k) (y1 / 2 ^ k) (Rng (mixF x0 y0 x1 y1 f' f) w h k) (Rng f w h k) x y a c) : Rng (mixF x0 y0 x1 y1 f' f) w h k x y a c := by
  by_cases hin : inR (x0 / 2 ^ k) (y0 / 2 ^ k) (x1 / 2 ^ k) (y1 / 2 ^ k) x y
  · exact H.1 hin
  · refine RngOn.congr (H.2 hin) (fun u v hs => mix_out (fun hi => hin ?_))
    obtain ⟨_, _, _, _, e1, e2⟩ := hs
    unfold inR at hi ⊢
    have p := pow2_pos k
    have q1 := Int.ediv_le_ediv p hi.1
    have q2 := Int.ediv_le_ediv p hi.2.1
    have q3 := Int.ediv_le_ediv p hi.2.2.1
    have q4 := Int.ediv_le_ediv p hi.2.2.2
    rw [e1] at q1 q2
    rw [e2] at q3 q4
    exact ⟨q1, q2, q3, q4⟩
theorem div_half (x : Int) (k : Nat) : x / 2 ^ k / 2 = x / 2 ^ (k + 1) := by
  rw [Int.pow_succ, Int.ediv_ediv_of_nonneg (Int.pow_nonneg (by omega))]
theorem div_zero' (x : Int) : x / 2 ^ 0 = x := by simp
theorem rect_lv {x0 x1 w : Int} {k : Nat} (a0 : 0 ≤ x0) (a1 : x0 ≤ x1) (a2 : x1 < w) : 0 ≤ x0 / 2 ^ k ∧ x0 / 2 ^ k ≤ x1 / 2 ^ k ∧ x1 / 2 ^ k < lw w k :=
  ⟨Int.ediv_nonneg a0 (Int.le_of_lt (pow2_pos k)), Int.ediv_le_ediv (pow2_pos k) a1, (div_lw (by omega) a2).2⟩

/-- The first i cells of a rectangle, row by row. -/
def doneL (x0 y0 x1 y1 : Int) (rw i : Nat) (x y : Int) : Prop := inR x0 y0 x1 y1 x y ∧ idxOf x0 y0 rw x y < i
def LayR (x0 y0 x1 y1 : Int) (rw i : Nat) (R' R : Int → Int → Int → Int → Prop) (x y a c : Int) : Prop := (doneL x0 y0 x1 y1 rw i x y → R' x y a c) ∧ (¬ doneL x0 y0 x1 y1 rw i x y → R x y a c)
theorem layR_zero {x0 y0 x1 y1 x y a c : Int} {rw : Nat} {R' R : Int → Int → Int → Int → Prop} (h : R x y a c) : LayR x0 y0 x1 y1 rw 0 R' R x y a c :=
  ⟨fun hd => by unfold doneL at hd; omega, fun _ => h⟩
theorem layR_all {x0 y0 x1 y1 x y a c : Int} {rw rh : Nat} {R' R : Int → Int → Int → Int → Prop} (hrw : (rw : Int) = x1 - x0 + 1) (hrh : (rh : Int) = y1 - y0 + 1) (h : LayR x0 y0 x1 y1 rw (rw * rh) R' R x y a c) : MixR x0 y0 x1 y1 R' R x y a c :=
  ⟨fun hi => h.1 ⟨hi, idxOf_lt hrw hrh hi⟩, fun hn => h.2 (fun hd => hn hd.1)⟩
theorem idxOf_this {x0 y0 : Int} {rw I J : Nat} (hI : I < rw) : idxOf x0 y0 rw (x0 + I) (y0 + J) = rw * J + I := by
  unfold idxOf
  have e : (y0 + (J : Int) - y0) * (rw : Int) = ((rw * J : Nat) : Int) := by rw [show y0 + (J : Int) - y0 = (J : Int) by omega]; push_cast; rw [Int.mul_comm]
  rw [e]
  omega
theorem idxOf_inj {x0 y0 x1 y1 x y : Int} {rw I J : Nat} (hrw : (rw : Int) = x1 - x0 + 1) (hI : I < rw) (hi : inR x0 y0 x1 y1 x y) (he : idxOf x0 y0 rw x y = rw * J + I) : x = x0 + I ∧ y = y0 + J := by
  unfold inR at hi
  unfold idxOf at he
  have k1 := lex_lt (X := x - x0) (Y := y - y0) (rw := rw) (J := J) (K := I) (by omega) (by omega) (by omega) (by omega)
  have k2 := lex_lt (X := x - x0) (Y := y - y0) (rw := rw) (J := J) (K := I + 1) (by omega) (by omega) (by omega) (by omega)
  rw [he] at k1 k2
  have n1 := mt k1.2 (by omega)
  have n2 := k2.1 (by omega)
  omega
theorem layR_next {x0 y0 x1 y1 x y a c : Int} {rw I J : Nat} {R' R : Int → Int → Int → Int → Prop} (hrw : (rw : Int) = x1 - x0 + 1) (hI : I < rw) (hn : ¬ (x = x0 + I ∧ y = y0 + J)) (h : LayR x0 y0 x1 y1 rw (rw * J + I) R' R x y a c) : LayR x0 y0 x1 y1 rw (rw * J + I + 1) R' R x y a c := by
  have e : doneL x0 y0 x1 y1 rw (rw * J + I + 1) x y ↔ doneL x0 y0 x1 y1 rw (rw * J + I) x y := by
    unfold doneL
    refine ⟨fun ⟨hi, hlt⟩ => ⟨hi, ?_⟩, fun ⟨hi, hlt⟩ => ⟨hi, by omega⟩⟩
    have : idxOf x0 y0 rw x y ≠ rw * J + I := fun he => hn (idxOf_inj hrw hI hi he)
    omega
  unfold LayR at h ⊢
  rw [e]
  exact h
theorem layR_this {x0 y0 x1 y1 a c : Int} {rw I J : Nat} {R' R : Int → Int → Int → Int → Prop} (hI : I < rw) (hi : inR x0 y0 x1 y1 (x0 + I) (y0 + J)) (h : R' (x0 + I) (y0 + J) a c) : LayR x0 y0 x1 y1 rw (rw * J + I + 1) R' R (x0 + I) (y0 + J) a c :=
  ⟨fun _ => h, fun hn => absurd ⟨hi, by rw [idxOf_this hI]; omega⟩ hn⟩

/-- The levels ahead of the k-th are the one land's, the others the other's. -/
def lvl (fm f : Int → Int → Int) (w h : Int) (k j : Nat) : Int → Int → Int → Int → Prop := if j < k then Rng fm w h j else Rng f w h j
theorem lvl_lt {fm f : Int → Int → Int} {w h : Int} {k j : Nat} (h1 : j < k) : lvl fm f w h k j = Rng fm w h j := by unfold lvl; rw [if_pos h1]
theorem lvl_ge {fm f : Int → Int → Int} {w h : Int} {k j : Nat} (h1 : k ≤ j) : lvl fm f w h k j = Rng f w h j := by unfold lvl; rw [if_neg (by omega)]
theorem PyrRaw.step {W W' : World} {p : Nat} {F : Nat → Prop} {w h : Int} {fm f : Int → Int → Int} {k A cap : Nat} {ps : Array Value} {s : Nat → Nat} (H : PyrRaw W p F w h (lvl fm f w h k) A cap ps s) (hk : k < levs w h)
    (hm : Mod (fun t => t = s k) W W') (hc : CellsAt W' (s k) (lw w k) (lw h k) (Rng fm w h k)) : PyrRaw W' p F w h (lvl fm f w h (k + 1)) A cap ps s := by
  have n1 := H.nep k hk
  refine ⟨H.w1, H.w2, H.h1, H.h2, H.own, H.owna, H.owns, fun t ht => Nat.lt_of_lt_of_le (H.lt t ht) hm.size, H.ne, H.nep, H.inj, H.cap_le, hm.blk H.head (fun e => n1.1 e.symm), hm.blk H.row (fun e => n1.2 e.symm), H.lev, fun j hj => ?_⟩
  by_cases e : j = k
  · subst e
    rw [lvl_lt (by omega)]
    exact hc
  · have hcj := (H.cells j hj).keep (hm.block _ (H.lt _ (H.owns j hj)) (fun e2 => H.inj j k hj hk e e2))
    by_cases hlt : j < k
    · rw [lvl_lt hlt] at hcj
      rw [lvl_lt (by omega)]
      exact hcj
    · rw [lvl_ge (by omega)] at hcj
      rw [lvl_ge (by omega)]
      exact hcj
theorem PyrRaw.turn {W : World} {p : Nat} {F : Nat → Prop} {w h : Int} {R R' : Nat → Int → Int → Int → Int → Prop} {A cap : Nat} {ps : Array Value} {s : Nat → Nat} (H : PyrRaw W p F w h R A cap ps s) (hr : ∀ k, k < levs w h → ∀ x y a c, 0 ≤ x → x < lw w k → 0 ≤ y → y < lw h k → R k x y a c → R' k x y a c) : PyrRaw W p F w h R' A cap ps s :=
  ⟨H.w1, H.w2, H.h1, H.h2, H.own, H.owna, H.owns, H.lt, H.ne, H.nep, H.inj, H.cap_le, H.head, H.row, H.lev, fun k hk => (H.cells k hk).weaken (hr k hk)⟩
end Go.Proofs.Ytgofkgmhpnkchaa

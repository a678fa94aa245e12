/- The least and the greatest of a function over some places; levels above it. Plain, without the program's text. -/
import Derived.Test.YtgofkgmhpnkchaaLev
import Derived.Test.YtgofkgmhpnkchaaGridValues
set_option linter.unusedVariables false
set_option linter.unusedSimpArgs false
namespace Go.Proofs.Ytgofkgmhpnkchaa

/-- a and b: the least and the greatest of f's values at some places. -/
def RngOn (S : Int → Int → Prop) (f : Int → Int → Int) (a b : Int) : Prop :=
  (∀ u v, S u v → a ≤ f u v ∧ f u v ≤ b) ∧ (∃ u v, S u v ∧ f u v = a) ∧ (∃ u v, S u v ∧ f u v = b)
theorem RngOn.unique {S : Int → Int → Prop} {f : Int → Int → Int} {a b c d : Int} (h : RngOn S f a b) (k : RngOn S f c d) : a = c ∧ b = d := by
  obtain ⟨h1, ⟨u1, v1, p1, q1⟩, ⟨u2, v2, p2, q2⟩⟩ := h
  obtain ⟨k1, ⟨s1, t1, i1, j1⟩, ⟨s2, t2, i2, j2⟩⟩ := k
  have := k1 u1 v1 p1
  have := k1 u2 v2 p2
  have := h1 s1 t1 i1
  have := h1 s2 t2 i2
  omega
theorem RngOn.congr {S : Int → Int → Prop} {f f' : Int → Int → Int} {a b : Int} (h : RngOn S f a b) (hf : ∀ u v, S u v → f' u v = f u v) : RngOn S f' a b := by
  obtain ⟨h1, ⟨u1, v1, p1, q1⟩, ⟨u2, v2, p2, q2⟩⟩ := h
  exact ⟨fun u v hs => by rw [hf u v hs]; exact h1 u v hs, ⟨u1, v1, p1, (hf _ _ p1).trans q1⟩, ⟨u2, v2, p2, (hf _ _ p2).trans q2⟩⟩
theorem RngOn.iff {S T : Int → Int → Prop} {f : Int → Int → Int} {a b : Int} (h : RngOn S f a b) (hs : ∀ u v, T u v ↔ S u v) : RngOn T f a b := by
  obtain ⟨h1, ⟨u1, v1, p1, q1⟩, ⟨u2, v2, p2, q2⟩⟩ := h
  exact ⟨fun u v ht => h1 u v ((hs u v).1 ht), ⟨u1, v1, (hs _ _).2 p1, q1⟩, ⟨u2, v2, (hs _ _).2 p2, q2⟩⟩
theorem RngOn.join {S T : Int → Int → Prop} {f : Int → Int → Int} {a b c d : Int} (h : RngOn S f a b) (k : RngOn T f c d) : RngOn (fun u v => S u v ∨ T u v) f (imin a c) (imax b d) := by
  obtain ⟨h1, ⟨u1, v1, p1, q1⟩, ⟨u2, v2, p2, q2⟩⟩ := h
  obtain ⟨k1, ⟨s1, t1, i1, j1⟩, ⟨s2, t2, i2, j2⟩⟩ := k
  unfold imin imax
  refine ⟨fun u v hs => ?_, ?_, ?_⟩
  · rcases hs with hs | hs
    · have := h1 u v hs
      split <;> split <;> omega
    · have := k1 u v hs
      split <;> split <;> omega
  · split
    · exact ⟨s1, t1, .inr i1, j1⟩
    · exact ⟨u1, v1, .inl p1, q1⟩
  · split
    · exact ⟨s2, t2, .inr i2, j2⟩
    · exact ⟨u2, v2, .inl p2, q2⟩

/-- The cells for which a cell of level k stands. -/
def span (w h : Int) (k : Nat) (x y u v : Int) : Prop := 0 ≤ u ∧ u < w ∧ 0 ≤ v ∧ v < h ∧ u / 2 ^ k = x ∧ v / 2 ^ k = y
theorem span0 {w h x y u v : Int} : span w h 0 x y u v ↔ 0 ≤ u ∧ u < w ∧ 0 ≤ v ∧ v < h ∧ u = x ∧ v = y := by
  unfold span
  simp
theorem div_succ {u : Int} {k : Nat} {x : Int} (h0 : 0 ≤ u) : u / 2 ^ (k + 1) = x ↔ u / 2 ^ k = 2 * x ∨ u / 2 ^ k = 2 * x + 1 := by
  rw [Int.pow_succ, ← Int.ediv_ediv_of_nonneg (Int.pow_nonneg (by omega))]
  have := Int.ediv_nonneg h0 (Int.le_of_lt (pow2_pos k))
  omega
theorem div_lw {w u : Int} {k : Nat} (h0 : 0 ≤ u) (h1 : u < w) : 0 ≤ u / 2 ^ k ∧ u / 2 ^ k < lw w k := by
  refine ⟨Int.ediv_nonneg h0 (Int.le_of_lt (pow2_pos k)), ?_⟩
  have := Int.ediv_le_ediv (pow2_pos k) (show u ≤ w - 1 by omega)
  unfold lw
  omega
/-- A cell of a level stands for one at least. -/
theorem span_some {w h x y : Int} {k : Nat} (a1 : 0 ≤ x) (a2 : x < lw w k) (a3 : 0 ≤ y) (a4 : y < lw h k) : span w h k x y (x * 2 ^ k) (y * 2 ^ k) := by
  have p := pow2_pos k
  have hx : x * 2 ^ k ≤ w - 1 := (Int.le_ediv_iff_mul_le p).1 (by unfold lw at a2; omega)
  have hy : y * 2 ^ k ≤ h - 1 := (Int.le_ediv_iff_mul_le p).1 (by unfold lw at a4; omega)
  have q1 := Int.mul_nonneg a1 (Int.le_of_lt p)
  have q2 := Int.mul_nonneg a3 (Int.le_of_lt p)
  exact ⟨q1, by omega, q2, by omega, Int.mul_ediv_cancel _ (by omega), Int.mul_ediv_cancel _ (by omega)⟩
/-- The least and the greatest below a cell of level k. -/
def Rng (f : Int → Int → Int) (w h : Int) (k : Nat) (x y a b : Int) : Prop := RngOn (span w h k x y) f a b
theorem rng0 {f : Int → Int → Int} {w h x y : Int} (a1 : 0 ≤ x) (a2 : x < w) (a3 : 0 ≤ y) (a4 : y < h) : Rng f w h 0 x y (f x y) (f x y) := by
  refine ⟨fun u v hs => ?_, ⟨x, y, span0.2 ⟨a1, a2, a3, a4, rfl, rfl⟩, rfl⟩, ⟨x, y, span0.2 ⟨a1, a2, a3, a4, rfl, rfl⟩, rfl⟩⟩
  obtain ⟨_, _, _, _, e1, e2⟩ := span0.1 hs
  subst e1 e2
  exact ⟨Int.le_refl _, Int.le_refl _⟩
theorem rng_const {c w h x y : Int} {k : Nat} (a1 : 0 ≤ x) (a2 : x < lw w k) (a3 : 0 ≤ y) (a4 : y < lw h k) : Rng (fun _ _ => c) w h k x y c c :=
  ⟨fun _ _ _ => ⟨Int.le_refl _, Int.le_refl _⟩, ⟨_, _, span_some a1 a2 a3 a4, rfl⟩, ⟨_, _, span_some a1 a2 a3 a4, rfl⟩⟩

/-- The cells below the first of a cell's kids, and below the first j of all four. -/
def kids (w h : Int) (k : Nat) (x y : Int) (j : Nat) (u v : Int) : Prop :=
  span w h k (2 * x) (2 * y) u v ∨ ∃ i : Nat, i < j ∧ span w h k (2 * x + (i : Int) % 2) (2 * y + (i : Int) / 2) u v
theorem kids_zero {w h x y u v : Int} {k : Nat} : kids w h k x y 0 u v ↔ span w h k (2 * x) (2 * y) u v :=
  ⟨fun hk => hk.elim id (fun ⟨i, hi, _⟩ => by omega), .inl⟩
theorem kids_step {w h x y u v : Int} {k j : Nat} : kids w h k x y (j + 1) u v ↔ kids w h k x y j u v ∨ span w h k (2 * x + (j : Int) % 2) (2 * y + (j : Int) / 2) u v := by
  constructor
  · rintro (hk | ⟨i, hi, hk⟩)
    · exact .inl (.inl hk)
    · by_cases e : i = j
      · subst e; exact .inr hk
      · exact .inl (.inr ⟨i, by omega, hk⟩)
  · rintro ((hk | ⟨i, hi, hk⟩) | hk)
    · exact .inl hk
    · exact .inr ⟨i, by omega, hk⟩
    · exact .inr ⟨j, by omega, hk⟩
theorem kids_skip {w h x y u v : Int} {k j : Nat} (hn : ¬ (2 * x + (j : Int) % 2 < lw w k ∧ 2 * y + (j : Int) / 2 < lw h k)) : kids w h k x y (j + 1) u v ↔ kids w h k x y j u v := by
  rw [kids_step]
  refine ⟨fun hk => hk.elim id (fun hs => ?_), .inl⟩
  obtain ⟨b1, b2, b3, b4, b5, b6⟩ := hs
  have c1 := div_lw (k := k) b1 b2
  have c2 := div_lw (k := k) b3 b4
  exact absurd ⟨by omega, by omega⟩ hn
theorem kids_all {w h x y u v : Int} {k : Nat} : span w h (k + 1) x y u v ↔ kids w h k x y 4 u v := by
  constructor
  · rintro ⟨b1, b2, b3, b4, b5, b6⟩
    have c1 := (div_succ b1).1 b5
    have c2 := (div_succ b3).1 b6
    rcases c1 with c1 | c1 <;> rcases c2 with c2 | c2
    · exact .inr ⟨0, by omega, b1, b2, b3, b4, by omega, by omega⟩
    · exact .inr ⟨2, by omega, b1, b2, b3, b4, by omega, by omega⟩
    · exact .inr ⟨1, by omega, b1, b2, b3, b4, by omega, by omega⟩
    · exact .inr ⟨3, by omega, b1, b2, b3, b4, by omega, by omega⟩
  · rintro (⟨b1, b2, b3, b4, b5, b6⟩ | ⟨i, hi, b1, b2, b3, b4, b5, b6⟩)
    · exact ⟨b1, b2, b3, b4, (div_succ b1).2 (by omega), (div_succ b3).2 (by omega)⟩
    · exact ⟨b1, b2, b3, b4, (div_succ b1).2 (by omega), (div_succ b3).2 (by omega)⟩
/-- A span as a rectangle. -/
theorem span_rect {w h x y u v : Int} {k : Nat} (a1 : 0 ≤ x) (a3 : 0 ≤ y) : span w h k x y u v ↔ x * 2 ^ k ≤ u ∧ u ≤ imin ((x + 1) * 2 ^ k - 1) (w - 1) ∧ y * 2 ^ k ≤ v ∧ v ≤ imin ((y + 1) * 2 ^ k - 1) (h - 1) := by
  have p := pow2_pos k
  have q1 := Int.mul_nonneg a1 (Int.le_of_lt p)
  have q2 := Int.mul_nonneg a3 (Int.le_of_lt p)
  have e1 : u / 2 ^ k = x ↔ x * 2 ^ k ≤ u ∧ u < (x + 1) * 2 ^ k := by
    rw [← Int.le_ediv_iff_mul_le p, ← Int.ediv_lt_iff_lt_mul p]
    omega
  have e2 : v / 2 ^ k = y ↔ y * 2 ^ k ≤ v ∧ v < (y + 1) * 2 ^ k := by
    rw [← Int.le_ediv_iff_mul_le p, ← Int.ediv_lt_iff_lt_mul p]
    omega
  unfold span imin
  rw [e1, e2]
  generalize x * 2 ^ k = A at *
  generalize (x + 1) * 2 ^ k = B at *
  generalize y * 2 ^ k = C at *
  generalize (y + 1) * 2 ^ k = D at *
  split <;> split <;> omega
/-- A row's least and greatest. -/
def RngL (g : Nat → Int) (n : Nat) (a b : Int) : Prop := (∀ i, i < n → a ≤ g i ∧ g i ≤ b) ∧ (∃ i, i < n ∧ g i = a) ∧ (∃ i, i < n ∧ g i = b)
theorem rngL_one (g : Nat → Int) : RngL g 1 (g 0) (g 0) :=
  ⟨fun i hi => by rw [show i = 0 by omega]; exact ⟨Int.le_refl _, Int.le_refl _⟩, ⟨0, by omega, rfl⟩, ⟨0, by omega, rfl⟩⟩
theorem rngL_step {g : Nat → Int} {n : Nat} {a b : Int} (h : RngL g n a b) : RngL g (n + 1) (imin a (g n)) (imax b (g n)) := by
  obtain ⟨h1, ⟨i, hi, ei⟩, ⟨j, hj, ej⟩⟩ := h
  unfold imin imax
  refine ⟨fun t ht => ?_, ?_, ?_⟩
  · by_cases e : t = n
    · subst e; split <;> split <;> omega
    · have := h1 t (by omega)
      split <;> split <;> omega
  · split
    · exact ⟨n, by omega, rfl⟩
    · exact ⟨i, by omega, ei⟩
  · split
    · exact ⟨n, by omega, rfl⟩
    · exact ⟨j, by omega, ej⟩
theorem rngL_rect {f : Int → Int → Int} {x0 y0 x1 y1 a b : Int} {rw rh : Nat} (hrw : (rw : Int) = x1 - x0 + 1) (hrh : (rh : Int) = y1 - y0 + 1) (h : RngL (rowG f x0 y0 rw) (rw * rh) a b) :
    RngOn (fun u v => x0 ≤ u ∧ u ≤ x1 ∧ y0 ≤ v ∧ v ≤ y1) f a b := by
  obtain ⟨h1, ⟨i, hi, ei⟩, ⟨j, hj, ej⟩⟩ := h
  have key : ∀ i, i < rw * rh → x0 ≤ x0 + ((i % rw : Nat) : Int) ∧ x0 + ((i % rw : Nat) : Int) ≤ x1 ∧ y0 ≤ y0 + ((i / rw : Nat) : Int) ∧ y0 + ((i / rw : Nat) : Int) ≤ y1 := by
    intro i hi
    have hp : 0 < rw := by
      rcases Nat.eq_zero_or_pos rw with e | e
      · rw [e, Nat.zero_mul] at hi; omega
      · exact e
    have a1 := Nat.mod_lt i hp
    have a2 : i / rw < rh := Nat.div_lt_of_lt_mul hi
    generalize i % rw = I at *
    generalize i / rw = J at *
    omega
  refine ⟨fun u v ⟨b1, b2, b3, b4⟩ => ?_, ⟨_, _, key i hi, ei⟩, ⟨_, _, key j hj, ej⟩⟩
  have hlt : rw * (v - y0).toNat + (u - x0).toNat < rw * rh := by
    have := Nat.mul_le_mul_left rw (show (v - y0).toNat + 1 ≤ rh by omega)
    rw [Nat.mul_add] at this
    omega
  have := h1 _ hlt
  rw [rowG_at f x0 y0 (show (u - x0).toNat < rw by omega), show x0 + ((u - x0).toNat : Int) = u by omega, show y0 + ((v - y0).toNat : Int) = v by omega] at this
  exact this
end Go.Proofs.Ytgofkgmhpnkchaa

/- Texts of this claim, joined: Rng, Range, Values09, Span16. -/
import Derived.Test.YtfnflgcalhiamaaPackSz1
import Derived.Test.YtfnflgcalhiamaaPackSz6
import Derived.Test.YtfnflgcalhiamaaPackSz7
import Derived.Test.YtfnflgcalhiamaaPackSz8
import Derived.Deep.LoopGhost
/- The least and the greatest of a function over some places; levels above it. Plain, without the program's text. -/
set_option linter.unusedVariables false
set_option linter.unusedSimpArgs false
namespace Go.Proofs.Ytfnflgcalhiamaa

/-- a and b: the least and the greatest of f's values at some places. -/
def RngOn (S : Int → Int → Prop) (f : Int → Int → Int) (a b : Int) : Prop :=
  (∀ u v, S u v → a ≤ f u v ∧ f u v ≤ b) ∧ (∃ u v, S u v ∧ f u v = a) ∧ (∃ u v, S u v ∧ f u v = b)
theorem RngOn.unique {S : Int → Int → Prop} {f : Int → Int → Int} {a b c d : Int} (h : RngOn S f a b) (k : RngOn S f c d) : a = c ∧ b = d := by
  obtain ⟨h1, ⟨u1, v1, p1, q1⟩, ⟨u2, v2, p2, q2⟩⟩ := h
  obtain ⟨k1, ⟨s1, t1, i1, j1⟩, ⟨s2, t2, i2, j2⟩⟩ := k
  have := k1 u1 v1 p1
  have := k1 u2 v2 p2
  have := h1 s1 t1 i1
  have := h1 s2 t2 i2
  omega
theorem RngOn.congr {S : Int → Int → Prop} {f f' : Int → Int → Int} {a b : Int} (h : RngOn S f a b) (hf : ∀ u v, S u v → f' u v = f u v) : RngOn S f' a b := by
  obtain ⟨h1, ⟨u1, v1, p1, q1⟩, ⟨u2, v2, p2, q2⟩⟩ := h
  exact ⟨fun u v hs => by rw [hf u v hs]; exact h1 u v hs, ⟨u1, v1, p1, (hf _ _ p1).trans q1⟩, ⟨u2, v2, p2, (hf _ _ p2).trans q2⟩⟩
theorem RngOn.iff {S T : Int → Int → Prop} {f : Int → Int → Int} {a b : Int} (h : RngOn S f a b) (hs : ∀ u v, T u v ↔ S u v) : RngOn T f a b := by
  obtain ⟨h1, ⟨u1, v1, p1, q1⟩, ⟨u2, v2, p2, q2⟩⟩ := h
  exact ⟨fun u v ht => h1 u v ((hs u v).1 ht), ⟨u1, v1, (hs _ _).2 p1, q1⟩, ⟨u2, v2, (hs _ _).2 p2, q2⟩⟩
theorem RngOn.join {S T : Int → Int → Prop} {f : Int → Int → Int} {a b c d : Int} (h : RngOn S f a b) (k : RngOn T f c d) : RngOn (fun u v => S u v ∨ T u v) f (imin a c) (imax b d) := by
  obtain ⟨h1, ⟨u1, v1, p1, q1⟩, ⟨u2, v2, p2, q2⟩⟩ := h
  obtain ⟨k1, ⟨s1, t1, i1, j1⟩, ⟨s2, t2, i2, j2⟩⟩ := k
  unfold imin imax
  refine ⟨fun u v hs => ?_, ?_, ?_⟩
  · rcases hs with hs | hs
    · have := h1 u v hs
      split <;> split <;> omega
    · have := k1 u v hs
      split <;> split <;> omega
  · split
    · exact ⟨s1, t1, .inr i1, j1⟩
    · exact ⟨u1, v1, .inl p1, q1⟩
  · split
    · exact ⟨s2, t2, .inr i2, j2⟩
    · exact ⟨u2, v2, .inl p2, q2⟩

/-- The cells for which a cell of level k stands. -/
def span (w h : Int) (k : Nat) (x y u v : Int) : Prop := 0 ≤ u ∧ u < w ∧ 0 ≤ v ∧ v < h ∧ u / 2 ^ k = x ∧ v / 2 ^ k = y
theorem span0 {w h x y u v : Int} : span w h 0 x y u v ↔ 0 ≤ u ∧ u < w ∧ 0 ≤ v ∧ v < h ∧ u = x ∧ v = y := by
  unfold span
  simp
theorem div_succ {u : Int} {k : Nat} {x : Int} (h0 : 0 ≤ u) : u / 2 ^ (k + 1) = x ↔ u / 2 ^ k = 2 * x ∨ u / 2 ^ k = 2 * x + 1 := by
  rw [Int.pow_succ, ← Int.ediv_ediv_of_nonneg (Int.pow_nonneg (by omega))]
  have := Int.ediv_nonneg h0 (Int.le_of_lt (pow2_pos k))
  omega
theorem div_lw {w u : Int} {k : Nat} (h0 : 0 ≤ u) (h1 : u < w) : 0 ≤ u / 2 ^ k ∧ u / 2 ^ k < lw w k := by
  refine ⟨Int.ediv_nonneg h0 (Int.le_of_lt (pow2_pos k)), ?_⟩
  have := Int.ediv_le_ediv (pow2_pos k) (show u ≤ w - 1 by omega)
  unfold lw
  omega
/-- A cell of a level stands for one at least. -/
theorem span_some {w h x y : Int} {k : Nat} (a1 : 0 ≤ x) (a2 : x < lw w k) (a3 : 0 ≤ y) (a4 : y < lw h k) : span w h k x y (x * 2 ^ k) (y * 2 ^ k) := by
  have p := pow2_pos k
  have hx : x * 2 ^ k ≤ w - 1 := (Int.le_ediv_iff_mul_le p).1 (by unfold lw at a2; omega)
  have hy : y * 2 ^ k ≤ h - 1 := (Int.le_ediv_iff_mul_le p).1 (by unfold lw at a4; omega)
  have q1 := Int.mul_nonneg a1 (Int.le_of_lt p)
  have q2 := Int.mul_nonneg a3 (Int.le_of_lt p)
  exact ⟨q1, by omega, q2, by omega, Int.mul_ediv_cancel _ (by omega), Int.mul_ediv_cancel _ (by omega)⟩
/-- The least and the greatest below a cell of level k. -/
def Rng (f : Int → Int → Int) (w h : Int) (k : Nat) (x y a b : Int) : Prop := RngOn (span w h k x y) f a b
theorem rng0 {f : Int → Int → Int} {w h x y : Int} (a1 : 0 ≤ x) (a2 : x < w) (a3 : 0 ≤ y) (a4 : y < h) : Rng f w h 0 x y (f x y) (f x y) := by
  refine ⟨fun u v hs => ?_, ⟨x, y, span0.2 ⟨a1, a2, a3, a4, rfl, rfl⟩, rfl⟩, ⟨x, y, span0.2 ⟨a1, a2, a3, a4, rfl, rfl⟩, rfl⟩⟩
  obtain ⟨_, _, _, _, e1, e2⟩ := span0.1 hs
  subst e1 e2
  exact ⟨Int.le_refl _, Int.le_refl _⟩
theorem rng_const {c w h x y : Int} {k : Nat} (a1 : 0 ≤ x) (a2 : x < lw w k) (a3 : 0 ≤ y) (a4 : y < lw h k) : Rng (fun _ _ => c) w h k x y c c :=
  ⟨fun _ _ _ => ⟨Int.le_refl _, Int.le_refl _⟩, ⟨_, _, span_some a1 a2 a3 a4, rfl⟩, ⟨_, _, span_some a1 a2 a3 a4, rfl⟩⟩

/-- The cells below the first of a cell's kids, and below the first j of all four. -/
def kids (w h : Int) (k : Nat) (x y : Int) (j : Nat) (u v : Int) : Prop :=
  span w h k (2 * x) (2 * y) u v ∨ ∃ i : Nat, i < j ∧ span w h k (2 * x + (i : Int) % 2) (2 * y + (i : Int) / 2) u v
theorem kids_zero {w h x y u v : Int} {k : Nat} : kids w h k x y 0 u v ↔ span w h k (2 * x) (2 * y) u v :=
  ⟨fun hk => hk.elim id (fun ⟨i, hi, _⟩ => by omega), .inl⟩
theorem kids_step {w h x y u v : Int} {k j : Nat} : kids w h k x y (j + 1) u v ↔ kids w h k x y j u v ∨ span w h k (2 * x + (j : Int) % 2) (2 * y + (j : Int) / 2) u v := by
  constructor
  · rintro (hk | ⟨i, hi, hk⟩)
    · exact .inl (.inl hk)
    · by_cases e : i = j
      · subst e; exact .inr hk
      · exact .inl (.inr ⟨i, by omega, hk⟩)
  · rintro ((hk | ⟨i, hi, hk⟩) | hk)
    · exact .inl hk
    · exact .inr ⟨i, by omega, hk⟩
    · exact .inr ⟨j, by omega, hk⟩
theorem kids_skip {w h x y u v : Int} {k j : Nat} (hn : ¬ (2 * x + (j : Int) % 2 < lw w k ∧ 2 * y + (j : Int) / 2 < lw h k)) : kids w h k x y (j + 1) u v ↔ kids w h k x y j u v := by
  rw [kids_step]
  refine ⟨fun hk => hk.elim id (fun hs => ?_), .inl⟩
  obtain ⟨b1, b2, b3, b4, b5, b6⟩ := hs
  have c1 := div_lw (k := k) b1 b2
  have c2 := div_lw (k := k) b3 b4
  exact absurd ⟨by omega, by omega⟩ hn
theorem kids_all {w h x y u v : Int} {k : Nat} : span w h (k + 1) x y u v ↔ kids w h k x y 4 u v := by
  constructor
  · rintro ⟨b1, b2, b3, b4, b5, b6⟩
    have c1 := (div_succ b1).1 b5
    have c2 := (div_succ b3).1 b6
    rcases c1 with c1 | c1 <;> rcases c2 with c2 | c2
    · exact .inr ⟨0, by omega, b1, b2, b3, b4, by omega, by omega⟩
    · exact .inr ⟨2, by omega, b1, b2, b3, b4, by omega, by omega⟩
    · exact .inr ⟨1, by omega, b1, b2, b3, b4, by omega, by omega⟩
    · exact .inr ⟨3, by omega, b1, b2, b3, b4, by omega, by omega⟩
  · rintro (⟨b1, b2, b3, b4, b5, b6⟩ | ⟨i, hi, b1, b2, b3, b4, b5, b6⟩)
    · exact ⟨b1, b2, b3, b4, (div_succ b1).2 (by omega), (div_succ b3).2 (by omega)⟩
    · exact ⟨b1, b2, b3, b4, (div_succ b1).2 (by omega), (div_succ b3).2 (by omega)⟩
/-- A span as a rectangle. -/
theorem span_rect {w h x y u v : Int} {k : Nat} (a1 : 0 ≤ x) (a3 : 0 ≤ y) : span w h k x y u v ↔ x * 2 ^ k ≤ u ∧ u ≤ imin ((x + 1) * 2 ^ k - 1) (w - 1) ∧ y * 2 ^ k ≤ v ∧ v ≤ imin ((y + 1) * 2 ^ k - 1) (h - 1) := by
  have p := pow2_pos k
  have q1 := Int.mul_nonneg a1 (Int.le_of_lt p)
  have q2 := Int.mul_nonneg a3 (Int.le_of_lt p)
  have e1 : u / 2 ^ k = x ↔ x * 2 ^ k ≤ u ∧ u < (x + 1) * 2 ^ k := by
    rw [← Int.le_ediv_iff_mul_le p, ← Int.ediv_lt_iff_lt_mul p]
    omega
  have e2 : v / 2 ^ k = y ↔ y * 2 ^ k ≤ v ∧ v < (y + 1) * 2 ^ k := by
    rw [← Int.le_ediv_iff_mul_le p, ← Int.ediv_lt_iff_lt_mul p]
    omega
  unfold span imin
  rw [e1, e2]
  generalize x * 2 ^ k = A at *
  generalize (x + 1) * 2 ^ k = B at *
  generalize y * 2 ^ k = C at *
  generalize (y + 1) * 2 ^ k = D at *
  split <;> split <;> omega
/-- A row's least and greatest. -/
def RngL (g : Nat → Int) (n : Nat) (a b : Int) : Prop := (∀ i, i < n → a ≤ g i ∧ g i ≤ b) ∧ (∃ i, i < n ∧ g i = a) ∧ (∃ i, i < n ∧ g i = b)
theorem rngL_one (g : Nat → Int) : RngL g 1 (g 0) (g 0) :=
  ⟨fun i hi => by rw [show i = 0 by omega]; exact ⟨Int.le_refl _, Int.le_refl _⟩, ⟨0, by omega, rfl⟩, ⟨0, by omega, rfl⟩⟩
theorem rngL_step {g : Nat → Int} {n : Nat} {a b : Int} (h : RngL g n a b) : RngL g (n + 1) (imin a (g n)) (imax b (g n)) := by
  obtain ⟨h1, ⟨i, hi, ei⟩, ⟨j, hj, ej⟩⟩ := h
  unfold imin imax
  refine ⟨fun t ht => ?_, ?_, ?_⟩
  · by_cases e : t = n
    · subst e; split <;> split <;> omega
    · have := h1 t (by omega)
      split <;> split <;> omega
  · split
    · exact ⟨n, by omega, rfl⟩
    · exact ⟨i, by omega, ei⟩
  · split
    · exact ⟨n, by omega, rfl⟩
    · exact ⟨j, by omega, ej⟩
theorem rngL_rect {f : Int → Int → Int} {x0 y0 x1 y1 a b : Int} {rw rh : Nat} (hrw : (rw : Int) = x1 - x0 + 1) (hrh : (rh : Int) = y1 - y0 + 1) (h : RngL (rowG f x0 y0 rw) (rw * rh) a b) :
    RngOn (fun u v => x0 ≤ u ∧ u ≤ x1 ∧ y0 ≤ v ∧ v ≤ y1) f a b := by
  obtain ⟨h1, ⟨i, hi, ei⟩, ⟨j, hj, ej⟩⟩ := h
  have key : ∀ i, i < rw * rh → x0 ≤ x0 + ((i % rw : Nat) : Int) ∧ x0 + ((i % rw : Nat) : Int) ≤ x1 ∧ y0 ≤ y0 + ((i / rw : Nat) : Int) ∧ y0 + ((i / rw : Nat) : Int) ≤ y1 := by
    intro i hi
    have hp : 0 < rw := by
      rcases Nat.eq_zero_or_pos rw with e | e
      · rw [e, Nat.zero_mul] at hi; omega
      · exact e
    have a1 := Nat.mod_lt i hp
    have a2 : i / rw < rh := Nat.div_lt_of_lt_mul hi
    generalize i % rw = I at *
    generalize i / rw = J at *
    omega
  refine ⟨fun u v ⟨b1, b2, b3, b4⟩ => ?_, ⟨_, _, key i hi, ei⟩, ⟨_, _, key j hj, ej⟩⟩
  have hlt : rw * (v - y0).toNat + (u - x0).toNat < rw * rh := by
    have := Nat.mul_le_mul_left rw (show (v - y0).toNat + 1 ≤ rh by omega)
    rw [Nat.mul_add] at this
    omega
  have := h1 _ hlt
  rw [rowG_at f x0 y0 (show (u - x0).toNat < rw by omega), show x0 + ((u - x0).toNat : Int) = u by omega, show y0 + ((v - y0).toNat : Int) = v by omega] at this
  exact this
end Go.Proofs.Ytfnflgcalhiamaa
/- hachureref08.Range: the least and the greatest of a row. -/
set_option linter.unusedVariables false
set_option linter.unusedSimpArgs false
namespace Go.Proofs.Ytfnflgcalhiamaa
open Go.RowKit

theorem agg_Range : AggTy Try.prog 83 2 := ⟨⟨_, Try.underlying83⟩, by kernel_rfl⟩
/-- A range of a row. -/
def RangeOut (g : Nat → Int) (n : Nat) (W : World) (e : Ending) (W' : World) : Prop :=
  ∃ a b, e = .returned (.agg #[.int .i64 a, .int .i64 b]) ∧ RngL g n a b ∧ Below W.heap.size W W'

set_option maxHeartbeats 2000000 in
set_option maxRecDepth 100000 in
theorem ref08_Range_ok (ad : Addr) (n cap : Nat) (g : Nat → Int) (W : World) (n1 : 1 ≤ n) (n2 : n ≤ 1048576) (hrow : RowAt W ad n g) :
    Calls Try.prog 61 #[.slice (some ad) n cap] W (RangeOut g n W) := by
  have hadW : ad.block < W.heap.size := by
    have := World.block_lt_of_cell? W _ (hrow 0 (by omega))
    rwa [add_block] at this
  have q0 : ((n : Int) == 0) = false := by simp; omega
  go_enter Try.func61, Try.ntmps61
  go_wp2_with fail
  have nR := blk_new W (.cells #[.int .i64 0, .int .i64 0] 83)
  have hB := below_alloc1 W (.cells #[.int .i64 0, .int .i64 0] 83)
  obtain ⟨w1, hw1⟩ : ∃ w1, W.alloc (.cells #[.int .i64 0, .int .i64 0] 83) = w1 := ⟨_, rfl⟩
  have hs1 := alloc_size W (.cells #[.int .i64 0, .int .i64 0] 83)
  rw [hw1] at nR hB hs1 ⊢
  have hrow1 := hrow.below hB
  have c0 := hrow1 0 (by omega)
  rw [show ad.add 0 = ad from by cases ad; simp [Addr.add]] at c0
  have ca := fun o => cell_alloc (o := o) c0
  have cb := fun o => cell_drew (ca o)
  have cd := cell_drew c0
  have q1 : decide (0 < n) = true := decide_eq_true (by omega)
  have q2 : 0 < n := by omega
  clear hw1 hrow
  go_region
  clear ca cb cd c0
  have nM : ((w1.alloc (.cells #[.int .i64 (g 0), .int .i64 (g 0)] 83)).drew).heap[W.heap.size + 1]? = some (.cells #[.int .i64 (g 0), .int .i64 (g 0)] 83 (0, 0)) := blk_drew (blk_new_at hs1.symm)
  have hB2 : Below W.heap.size W ((w1.alloc (.cells #[.int .i64 (g 0), .int .i64 (g 0)] 83)).drew) := below_drew1 (below_alloc hB _)
  have hb2 : Below w1.heap.size w1 ((w1.alloc (.cells #[.int .i64 (g 0), .int .i64 (g 0)] 83)).drew) := below_drew1 (below_alloc1 _ _)
  obtain ⟨w2, hw2⟩ : ∃ w2, (w1.alloc (.cells #[.int .i64 (g 0), .int .i64 (g 0)] 83)).drew = w2 := ⟨_, rfl⟩
  rw [hw2] at nM hB2 hb2 ⊢
  have nR2 := below_blk hb2 nR
  have hrow2 := hrow1.below hb2
  obtain ⟨R, hR⟩ : ∃ R, W.heap.size = R := ⟨_, rfl⟩
  rw [hR] at nR2 hadW nM ⊢
  have hRb : W.heap.size ≤ R := by omega
  clear hw2 hb2 hB nR hs1 hrow1 q1 q2 hR
  go_wp2_with fail
  go_loopg [4] (n - 1) (fun q v4 wr => ∃ (j : Nat) (a b : Int), Hid (1 + j + q = n) ∧ v4 = .int .i64 (1 + (j : Int)) ∧ Hid (RngL g (1 + j) a b) ∧ wr.heap[R + 1]? = some (.cells #[.int .i64 a, .int .i64 b] 83 (0, 0)) ∧ Mod (fun k => k = R + 1) w2 wr)
  case atStart => exact ⟨0, g 0, g 0, show 1 + 0 + (n - 1) = n by omega, rfl, rngL_one g, nM, Mod.refl _ _⟩
  case round =>
    obtain ⟨j, a, b, hj, rfl, hr, hm, hM⟩ := hrel
    have nRr := hM.blk nR2 (by omega)
    cases gk with
    | zero =>
      have hd : decide (1 + j < n) = false := decide_eq_false (by have := hj.out; omega)
      have hd2 : decide ((1 + (j : Int)) < (n : Int)) = false := decide_eq_false (by have := hj.out; omega)
      have k_0 := cells_w hm 0 rfl
      have k_1 := cells_w hm 1 rfl
      have l_0 := cells_w nRr 0 rfl
      have l_1 := cells_w nRr 1 rfl
      have z_0 := blk_frozen nRr 0
      have z_1 := blk_frozen nRr 1
      go_wp2_with fail
      have hz := blk_set (blk_set nRr 0 (.int .i64 a)) 1 (.int .i64 b)
      refine bodyPost_ret (res_c rfl rfl hz agg_Range rfl) rfl ?_
      have ej : 1 + j = n := hj.out
      refine ⟨a, b, rfl, ej ▸ hr.out, ?_⟩
      exact ((hB2.trans (hM.below hB2.size (fun k hk => by omega))).setCell (by simp; omega) _).setCell (by simp; omega) _
    | succ m =>
      have hlt : 1 + j < n := by have := hj.out; omega
      have hd : decide (1 + j < n) = true := decide_eq_true hlt
      have hd2 : decide ((1 + (j : Int)) < (n : Int)) = true := decide_eq_true (by omega)
      have hji : (1 + (j : Int)) < (n : Int) := by omega
      have hc := (hrow2.mod hM (by omega)) (1 + j) hlt
      have qc := fun d os => cell_regrown hc d os
      have k_0 := cells_q hm 0 rfl
      have k_1 := cells_q hm 1 rfl
      by_cases hl : g (1 + j) < a
      · have he : imin a (g (1 + j)) = g (1 + j) := by unfold imin; rw [if_pos hl]
        have HE := Lib.hid he
        clear he
        have hL := decide_eq_true hl
        go_wp2_with fail
        refine wp_quiet (by kernel_rfl) (by kernel_rfl) ?_
        repeat (go_big_quiet_step ((first | fail)))
        refine wpQuiet_nil ?_
        intro w3 hb3
        clear qc k_0 k_1 hc
        have hm3 := below_blk hb3 hm
        have hM3 := hM.then_below hb3
        have hc := (hrow2.mod hM3 (by omega)) (1 + j) hlt
        have qc := hc
        have k_0 := cells_w hm3 0 rfl
        have k_1 := cells_w hm3 1 rfl
        have z_0 := blk_frozen hm3 0
        have z_1 := blk_frozen hm3 1
        go_wp2_with fail
        have hm2 := blk_set hm3 0 (.int .i64 (g (1 + j)))
        have hM2 := hM3.setCell (p := ⟨R + 1, 0, none⟩) (.inl rfl) (.int .i64 (g (1 + j)))
        clear hc z_0 z_1
        clear qc k_0 k_1
        have hc := (hrow2.mod hM2 (by omega)) (1 + j) hlt
        have qc := fun d os => cell_regrown hc d os
        have k_0 := cells_q hm2 0 rfl
        have k_1 := cells_q hm2 1 rfl
        by_cases hg : b < g (1 + j)
        · have e2 : imax b (g (1 + j)) = g (1 + j) := by unfold imax; rw [if_pos hg]
          have E2 := Lib.hid e2
          clear e2
          have hG := decide_eq_true hg
          go_wp2_with fail
          refine wp_quiet (by kernel_rfl) (by kernel_rfl) ?_
          repeat (go_big_quiet_step ((first | fail)))
          refine wpQuiet_nil ?_
          intro w4 hb4
          clear qc k_0 k_1 hc
          have hm4 := below_blk hb4 hm2
          have hM4 := hM2.then_below hb4
          have hc := (hrow2.mod hM4 (by omega)) (1 + j) hlt
          have k_0 := cells_w hm4 0 rfl
          have k_1 := cells_w hm4 1 rfl
          have z_0 := blk_frozen hm4 0
          have z_1 := blk_frozen hm4 1
          go_wp2_with fail
          go_roundg m
          case measure => omega
          case rel =>
            refine ⟨j + 1, imin a (g (1 + j)), imax b (g (1 + j)), by have := hj.out; exact (show 1 + (j + 1) + m = n by omega), congrArg (Value.int .i64) (by push_cast; omega), rngL_step hr.out, ?_, hM4.setCell (p := ⟨R + 1, 1, none⟩) (.inl rfl) _⟩
            rw [HE.out, E2.out]
            exact blk_set hm4 1 _
        · have e2 : imax b (g (1 + j)) = b := by unfold imax; rw [if_neg hg]
          have E2 := Lib.hid e2
          clear e2
          have hG := decide_eq_false hg
          go_wp2_with fail
          refine wp_quiet (by kernel_rfl) (by kernel_rfl) ?_
          repeat (go_big_quiet_step ((first | fail)))
          refine wpQuiet_nil ?_
          intro w4 hb4
          clear qc k_0 k_1 hc
          have hm4 := below_blk hb4 hm2
          have hM4 := hM2.then_below hb4
          go_wp2_with fail
          go_roundg m
          case measure => omega
          case rel =>
            refine ⟨j + 1, imin a (g (1 + j)), imax b (g (1 + j)), by have := hj.out; exact (show 1 + (j + 1) + m = n by omega), congrArg (Value.int .i64) (by push_cast; omega), rngL_step hr.out, ?_, hM4⟩
            rw [HE.out, E2.out]
            exact hm4
      · have he : imin a (g (1 + j)) = a := by unfold imin; rw [if_neg hl]
        have HE := Lib.hid he
        clear he
        have hL := decide_eq_false hl
        go_wp2_with fail
        refine wp_quiet (by kernel_rfl) (by kernel_rfl) ?_
        repeat (go_big_quiet_step ((first | fail)))
        refine wpQuiet_nil ?_
        intro w3 hb3
        clear hc
        have hm2 := below_blk hb3 hm
        have hM2 := hM.then_below hb3
        go_wp2_with fail
        clear qc k_0 k_1
        have hc := (hrow2.mod hM2 (by omega)) (1 + j) hlt
        have qc := fun d os => cell_regrown hc d os
        have k_0 := cells_q hm2 0 rfl
        have k_1 := cells_q hm2 1 rfl
        by_cases hg : b < g (1 + j)
        · have e2 : imax b (g (1 + j)) = g (1 + j) := by unfold imax; rw [if_pos hg]
          have E2 := Lib.hid e2
          clear e2
          have hG := decide_eq_true hg
          go_wp2_with fail
          refine wp_quiet (by kernel_rfl) (by kernel_rfl) ?_
          repeat (go_big_quiet_step ((first | fail)))
          refine wpQuiet_nil ?_
          intro w4 hb4
          clear qc k_0 k_1 hc
          have hm4 := below_blk hb4 hm2
          have hM4 := hM2.then_below hb4
          have hc := (hrow2.mod hM4 (by omega)) (1 + j) hlt
          have k_0 := cells_w hm4 0 rfl
          have k_1 := cells_w hm4 1 rfl
          have z_0 := blk_frozen hm4 0
          have z_1 := blk_frozen hm4 1
          go_wp2_with fail
          go_roundg m
          case measure => omega
          case rel =>
            refine ⟨j + 1, imin a (g (1 + j)), imax b (g (1 + j)), by have := hj.out; exact (show 1 + (j + 1) + m = n by omega), congrArg (Value.int .i64) (by push_cast; omega), rngL_step hr.out, ?_, hM4.setCell (p := ⟨R + 1, 1, none⟩) (.inl rfl) _⟩
            rw [HE.out, E2.out]
            exact blk_set hm4 1 _
        · have e2 : imax b (g (1 + j)) = b := by unfold imax; rw [if_neg hg]
          have E2 := Lib.hid e2
          clear e2
          have hG := decide_eq_false hg
          go_wp2_with fail
          refine wp_quiet (by kernel_rfl) (by kernel_rfl) ?_
          repeat (go_big_quiet_step ((first | fail)))
          refine wpQuiet_nil ?_
          intro w4 hb4
          clear qc k_0 k_1 hc
          have hm4 := below_blk hb4 hm2
          have hM4 := hM2.then_below hb4
          go_wp2_with fail
          go_roundg m
          case measure => omega
          case rel =>
            refine ⟨j + 1, imin a (g (1 + j)), imax b (g (1 + j)), by have := hj.out; exact (show 1 + (j + 1) + m = n by omega), congrArg (Value.int .i64) (by push_cast; omega), rngL_step hr.out, ?_, hM4⟩
            rw [HE.out, E2.out]
            exact hm4
end Go.Proofs.Ytfnflgcalhiamaa
/- hachureref09.Values, of a rectangle that is in the model. -/
set_option linter.unusedVariables false
set_option linter.unusedSimpArgs false
namespace Go.Proofs.Ytfnflgcalhiamaa
open Go.RowKit

set_option maxHeartbeats 2000000 in
set_option maxRecDepth 100000 in
theorem ref09_Values_ok (ad : Addr) (cap0 N : Nat) (u : Nat → Int) (w h x0 y0 x1 y1 : Int) (W : World) (w1 : 1 ≤ w) (w2 : w ≤ 1024) (h1 : 1 ≤ h) (h2 : h ≤ 1024) (hN : (N : Int) = w * h) (hrow : RowAt W ad N u)
    (a0 : 0 ≤ x0) (a1 : x0 ≤ x1) (a2 : x1 < w) (a3 : 0 ≤ y0) (a4 : y0 ≤ y1) (a5 : y1 < h) (rw rh : Nat) (hrw : (rw : Int) = x1 - x0 + 1) (hrh : (rh : Int) = y1 - y0 + 1) :
    Calls Try.prog 59 #[.agg #[.int .i64 w, .int .i64 h, .slice (some ad) N cap0], .agg #[.int .i64 x0, .int .i64 y0, .int .i64 x1, .int .i64 y1]] W (ValuesOut W (rw * rh) (rowG (fun x y => u ((y * w + x).toNat)) x0 y0 rw)) := by
  go_enter Try.func59, Try.ntmps59
  go_wp2_with fail
  have n0 := below_blk (below_alloc1 _ (.cells #[.int .i64 x0, .int .i64 y0, .int .i64 x1, .int .i64 y1] 71)) (blk_new W (.cells #[.int .i64 w, .int .i64 h, .slice (some ad) N cap0] 25))
  have n1 := blk_new (W.alloc (.cells #[.int .i64 w, .int .i64 h, .slice (some ad) N cap0] 25)) (.cells #[.int .i64 x0, .int .i64 y0, .int .i64 x1, .int .i64 y1] 71)
  rw [alloc_size] at n1
  have hB := below_alloc (below_alloc1 W (.cells #[.int .i64 w, .int .i64 h, .slice (some ad) N cap0] 25)) (.cells #[.int .i64 x0, .int .i64 y0, .int .i64 x1, .int .i64 y1] 71)
  obtain ⟨W2, hW2⟩ : ∃ W2, ((W.alloc (.cells #[.int .i64 w, .int .i64 h, .slice (some ad) N cap0] 25)).alloc (.cells #[.int .i64 x0, .int .i64 y0, .int .i64 x1, .int .i64 y1] 71)) = W2 := ⟨_, rfl⟩
  rw [hW2] at n0 n1 hB ⊢
  have hrow2 := hrow.below hB
  clear hW2 hrow
  refine (within07_any x0 y0 x1 y1 w h W2 w1 w2 h1 h2).mono ?_
  simp only [withinC_ok.2 ⟨a0, a1, a2, a3, a4, a5⟩]
  rintro e w3 ⟨rfl, hb⟩
  replace n0 := below_blk hb n0
  replace n1 := below_blk hb n1
  replace hrow2 := hrow2.below hb
  replace hB := below_next hB hb
  clear hb
  have j_0 := cells_w n1 0 rfl
  have j_1 := cells_w n1 1 rfl
  have j_2 := cells_w n1 2 rfl
  have j_3 := cells_w n1 3 rfl
  have i_0 := cells_w n0 0 rfl
  have i_1 := cells_w n0 1 rfl
  have i_2 := cells_w n0 2 rfl
  have ja_1 := fun o => cells_w (below_blk (below_alloc1 w3 o) n1) 1 rfl
  go_wp2_with fail
  have hown : (w3.alloc (.cells #[] 2)).ownsRow w3.heap.size 2 1 (.slice (some ⟨w3.heap.size, 0, none⟩) 0 0) 0 [] :=
    ⟨rfl, .inr ⟨w3.heap.size, 0, #[], rfl, Nat.le_refl _, blk_new _ _, Nat.le_refl _, by simp [maxLen], rfl, rfl⟩⟩
  have hbs := hB.size
  have hb := below_alloc1 w3 (.cells #[] 2)
  have Hrw := Lib.hid hrw
  have Hrh := Lib.hid hrh
  have HN := Lib.hid hN
  have hm := Nat.mul_le_mul (show rw ≤ 1024 by omega) (show rh ≤ 1024 by omega)
  have Hrow := Lib.hid hrow2
  clear hrw hrh hN hrow2 j_0 j_1 j_2 j_3 i_0 i_1 i_2 ja_1
  go_loopg [7, 8] rh (fun k v7 v8 wr => ∃ j : Nat, Hid (j + k = rh) ∧ v8 = .int .i64 (y0 + (j : Int)) ∧ wr.ownsRow w3.heap.size 2 1 v7 (rw * j) (vals (rowG (fun x y => u ((y * w + x).toNat)) x0 y0 rw) (rw * j)) ∧ Below w3.heap.size w3 wr)
  case atStart => exact ⟨0, Nat.zero_add _, by simp, by simpa [vals] using hown, hb⟩
  case round =>
    clear hown hb
    obtain ⟨j, hj, rfl, hown, hbr⟩ := hrel
    have cr := below_blk hbr n1
    have k_0 := cells_w cr 0 rfl
    have k_1 := cells_w cr 1 rfl
    have k_2 := cells_w cr 2 rfl
    have k_3 := cells_w cr 3 rfl
    cases gk with
    | zero =>
      have ht : decide (y0 + (j : Int) ≤ y1) = false := decide_eq_false (by have := Hrh.out; have := hj.out; omega)
      go_wp2_with fail
      go_ret2
      have ej : j = rh := hj.out
      subst ej
      obtain ⟨k, cap, cs, hv, hc1, hc2, hc3, hc4⟩ := own_row hown (by have := Nat.mul_le_mul (show 1 ≤ rw by have := Hrw.out; omega) (show 1 ≤ j by have := Hrh.out; omega); omega)
      subst hv
      exact ⟨k, cap, cs, rfl, hc1, by omega, hB.trans (hbr.mono hbs), hc3, fun i hi => hc4 i _ (vals_get _ hi)⟩
    | succ m =>
      have ht : decide (y0 + (j : Int) ≤ y1) = true := decide_eq_true (by have := Hrh.out; have := hj.out; omega)
      have hj' : j + 1 ≤ rh := by have := hj.out; omega
      have hyb : y0 + (j : Int) < h := by have := Hrh.out; omega
      go_wp2_with fail
      clear cr k_0 k_1 k_2 k_3
      go_loopg [7, 9] rw (fun k v7 v9 wi => ∃ i : Nat, Hid (i + k = rw) ∧ v9 = .int .i64 (x0 + (i : Int)) ∧ wi.ownsRow w3.heap.size 2 1 v7 (rw * j + i) (vals (rowG (fun x y => u ((y * w + x).toNat)) x0 y0 rw) (rw * j + i)) ∧ Below w3.heap.size w3 wi)
      case atStart => exact ⟨0, Nat.zero_add _, by simp, hown, hbr⟩
      case round =>
        clear hown hbr
        obtain ⟨i, hi, rfl, hown, hbr⟩ := hrel
        have cr := below_blk hbr n1
        have c0 := below_blk hbr n0
        have k_0 := cells_w cr 0 rfl
        have k_1 := cells_w cr 1 rfl
        have k_2 := cells_w cr 2 rfl
        have k_3 := cells_w cr 3 rfl
        have l_0 := cells_w c0 0 rfl
        have l_1 := cells_w c0 1 rfl
        have l_2 := cells_w c0 2 rfl
        cases gk with
        | zero =>
          have ht2 : decide (x0 + (i : Int) ≤ x1) = false := decide_eq_false (by have := Hrw.out; have := hi.out; omega)
          go_wp2_with fail
          go_roundg m
          case measure => omega
          case rel =>
            have e : i = rw := hi.out
            subst e
            exact ⟨j + 1, by have := hj.out; exact (show j + 1 + m = _ by omega), congrArg (Value.int .i64) (by push_cast; omega), hown, hbr⟩
        | succ m2 =>
          have hi' : i + 1 ≤ rw := by have := hi.out; omega
          have ht2 : decide (x0 + (i : Int) ≤ x1) = true := decide_eq_true (by have := Hrw.out; omega)
          have hxb : x0 + (i : Int) < w := by have := Hrw.out; omega
          have hix := idx_lt (x := x0 + (i : Int)) (y := y0 + (j : Int)) (w := w) (h := h) (by omega) hxb (by omega) hyb
          have hym := mul_bd (a := y0 + (j : Int)) (b := w) (A := 1024) (B := 1024) (by omega) (by omega) (by omega) (by omega)
          have hNN := mul_bd (a := w) (b := h) (A := 1024) (B := 1024) (by omega) (by omega) (by omega) (by omega)
          have hlt : ((y0 + (j : Int)) * w + (x0 + (i : Int))).toNat < N := by have := HN.out; omega
          have hc := (Hrow.out.below hbr) _ hlt
          have wr1 : wrap64 ((y0 + (j : Int)) * w) = (y0 + (j : Int)) * w := wrap64_id (by omega) (by omega)
          have wr2 : wrap64 ((y0 + (j : Int)) * w + (x0 + (i : Int))) = (y0 + (j : Int)) * w + (x0 + (i : Int)) := wrap64_id (by omega) (by omega)
          have hsz := hbr.size
          have hlen : rw * j + i < rw * rh := by
            have := Nat.mul_le_mul_left rw hj'
            rw [Nat.mul_add] at this
            omega
          have hI1 : 0 ≤ (y0 + (j : Int)) * w + (x0 + (i : Int)) := hix.1
          have hI2 : (y0 + (j : Int)) * w + (x0 + (i : Int)) < (N : Int) := by have := HN.out; omega
          go_wp2_with (at_builtin; refine append_el w3.heap.size rfl (.tmp 36) (.tmp 47) 22 2 _ 1 8 rfl Try.underlying22 info_int64 rfl (by omega) _ _ _ [.int .i64 (u (((y0 + (j : Int)) * w + (x0 + (i : Int))).toNat))] rfl _ rfl rfl rfl ?_ hown hsz (by omega) (by omega) ?_)
          · intro u hu; simp at hu; subst hu; rfl
          · intro v1 w8 hown2 hb2
            have hbr8 := hbr.trans hb2
            clear cr k_0 k_1 k_2 k_3
            have cr := below_blk hbr8 n1
            have k_0 := cells_w cr 0 rfl
            have k_1 := cells_w cr 1 rfl
            have k_2 := cells_w cr 2 rfl
            have k_3 := cells_w cr 3 rfl
            go_wp2_with fail
            go_roundg m2
            case measure => omega
            case rel =>
              refine ⟨i + 1, by have := hi.out; exact (show i + 1 + m2 = _ by omega), congrArg (Value.int .i64) (by push_cast; omega), ?_, hbr8⟩
              have e2 := vals_succ (rowG (fun x y => u ((y * w + x).toNat)) x0 y0 rw) (rw * j + i)
              rw [rowG_at _ x0 y0 (show i < rw by omega)] at e2
              rw [show rw * j + (i + 1) = rw * j + i + 1 from rfl, e2]
              exact hown2
end Go.Proofs.Ytfnflgcalhiamaa
/- hachureref16.Span. -/
set_option linter.unusedVariables false
set_option linter.unusedSimpArgs false
namespace Go.Proofs.Ytfnflgcalhiamaa
open Go.RowKit

theorem pow_bd {k : Nat} (hk : k ≤ 10) : (1 : Int) ≤ 2 ^ k ∧ (2 : Int) ^ k ≤ 1024 := by
  have h1 := Nat.pow_le_pow_right (n := 2) (by omega) hk
  have h2 := Nat.pow_le_pow_right (n := 2) (by omega) (Nat.zero_le k)
  have e : ((2 ^ k : Nat) : Int) = 2 ^ k := by push_cast; rfl
  omega
theorem span_bd {w x : Int} {k : Nat} (a1 : 0 ≤ x) (a2 : x < lw w k) : 0 ≤ x * 2 ^ k ∧ x * 2 ^ k ≤ w - 1 := by
  have p := pow2_pos k
  exact ⟨Int.mul_nonneg a1 (Int.le_of_lt p), (Int.le_ediv_iff_mul_le p).1 (by unfold lw at a2; omega)⟩

set_option maxHeartbeats 2000000 in
set_option maxRecDepth 100000 in
theorem ref16_Span_ok (w h x y : Int) (k : Nat) (v : Value) (W : World) (w1 : 1 ≤ w) (w2 : w ≤ 1024) (h1 : 1 ≤ h) (h2 : h ≤ 1024) (hk : k ≤ 10) (a1 : 0 ≤ x) (a2 : x < lw w k) (a3 : 0 ≤ y) (a4 : y < lw h k) (hv : ∃ o n c, v = .slice o n c) :
    Calls Try.prog 60 #[.agg #[.int .i64 w, .int .i64 h, v], .int .i64 k, .agg #[.int .i64 x, .int .i64 y]] W
      fun e W' => e = .returned (.agg #[.int .i64 (x * 2 ^ k), .int .i64 (y * 2 ^ k), .int .i64 (imin ((x + 1) * 2 ^ k - 1) (w - 1)), .int .i64 (imin ((y + 1) * 2 ^ k - 1) (h - 1))]) ∧ Below W.heap.size W W' := by
  obtain ⟨o, n, c, rfl⟩ := hv
  have bx := span_bd a1 a2
  have hby := span_bd a3 a4
  have bS := pow_bd hk
  have lx := lw_bd w1 k
  have ly := lw_bd h1 k
  have HB := Lib.hid (And.intro bx (And.intro hby (And.intro bS (And.intro lx ly))))
  clear bx hby bS lx ly
  go_enter Try.func60, Try.ntmps60
  go_wp2_with fail
  have n0 := below_blk (below_alloc (below_alloc1 (W.alloc (.cells #[.int .i64 w, .int .i64 h, .slice o n c] 25)) (.cells #[.int .i64 x, .int .i64 y] 53)) (.cells #[.int .i64 0, .int .i64 0, .int .i64 0, .int .i64 0] 71)) (blk_new W (.cells #[.int .i64 w, .int .i64 h, .slice o n c] 25))
  have n1 := below_blk (below_alloc1 ((W.alloc (.cells #[.int .i64 w, .int .i64 h, .slice o n c] 25)).alloc (.cells #[.int .i64 x, .int .i64 y] 53)) (.cells #[.int .i64 0, .int .i64 0, .int .i64 0, .int .i64 0] 71)) (blk_new2 W (.cells #[.int .i64 w, .int .i64 h, .slice o n c] 25) (.cells #[.int .i64 x, .int .i64 y] 53))
  have n2 := blk_new2 (W.alloc (.cells #[.int .i64 w, .int .i64 h, .slice o n c] 25)) (.cells #[.int .i64 x, .int .i64 y] 53) (.cells #[.int .i64 0, .int .i64 0, .int .i64 0, .int .i64 0] 71)
  have hB := below_alloc (below_alloc (below_alloc1 W (.cells #[.int .i64 w, .int .i64 h, .slice o n c] 25)) (.cells #[.int .i64 x, .int .i64 y] 53)) (.cells #[.int .i64 0, .int .i64 0, .int .i64 0, .int .i64 0] 71)
  rw [alloc_size] at n2
  obtain ⟨w3, hw3⟩ : ∃ w3, (((W.alloc (.cells #[.int .i64 w, .int .i64 h, .slice o n c] 25)).alloc (.cells #[.int .i64 x, .int .i64 y] 53)).alloc (.cells #[.int .i64 0, .int .i64 0, .int .i64 0, .int .i64 0] 71)) = w3 := ⟨_, rfl⟩
  rw [hw3] at n0 n1 n2 hB ⊢
  clear hw3
  go_loopg [7, 8] k (fun q v7 v8 wr => ∃ (j : Nat) (P : Int), Hid (j + q = k) ∧ Hid (P = 2 ^ j) ∧ v7 = .int .i64 P ∧ v8 = .int .i64 (j : Int) ∧ w3 = wr)
  case atStart => exact ⟨0, 1, Nat.zero_add _, rfl, rfl, rfl, rfl⟩
  case round =>
    obtain ⟨j, P, hj, hP, rfl, rfl, rfl⟩ := hrel
    have hPb : 1 ≤ P ∧ P ≤ 1024 := by rw [hP.out]; exact pow_bd (by have := hj.out; omega)
    cases gk with
    | zero =>
      have hd : decide (j < k) = false := decide_eq_false (by have := hj.out; omega)
      have hPk : P = 2 ^ k := by rw [hP.out, show j = k from hj.out]
      obtain ⟨⟨b1, b2⟩, ⟨b3, b4⟩, ⟨b5, b6⟩, ⟨b7, b8⟩, ⟨b9, b10⟩⟩ := HB.out
      rw [← hPk] at b1 b2 b3 b4
      have sx : (x + 1) * P = x * P + P := by rw [Int.add_mul, Int.one_mul]
      have sy : (y + 1) * P = y * P + P := by rw [Int.add_mul, Int.one_mul]
      have u1 : wrap64 (x * P) = x * P := wrap64_id (by omega) (by omega)
      have u2 : wrap64 (y * P) = y * P := wrap64_id (by omega) (by omega)
      have u3 : wrap64 ((x + 1) * P) = (x + 1) * P := wrap64_id (by omega) (by omega)
      have u4 : wrap64 ((y + 1) * P) = (y + 1) * P := wrap64_id (by omega) (by omega)
      have u5 : wrap64 ((x + 1) * P - 1) = (x + 1) * P - 1 := wrap64_id (by omega) (by omega)
      have u6 : wrap64 ((y + 1) * P - 1) = (y + 1) * P - 1 := wrap64_id (by omega) (by omega)
      have HPk := Lib.hid hPk
      have HSX := Lib.hid sx
      have HSY := Lib.hid sy
      clear hPk
      have l2 := blk_lt n2
      have l0 := blk_lt n0
      have p_0 := cells_w n1 0 rfl
      have p_1 := cells_w n1 1 rfl
      have q_0 := fun o => cells_w (below_blk (below_alloc1 w3 o) n0) 0 rfl
      have q_1 := fun o => cells_w (below_blk (below_alloc1 w3 o) n0) 1 rfl
      have z_0 := fun o => blk_frozen (below_blk (below_alloc1 w3 o) n2) 0
      have z_1 := fun o => blk_frozen (below_blk (below_alloc1 w3 o) n2) 1
      have z_2 := fun o => blk_frozen (below_blk (below_alloc1 w3 o) n2) 2
      have z_3 := fun o => blk_frozen (below_blk (below_alloc1 w3 o) n2) 3
      have k_0 := cells_w n2 0 rfl
      have k_1 := cells_w n2 1 rfl
      have k_2 := cells_w n2 2 rfl
      have k_3 := cells_w n2 3 rfl
      have zz_0 := blk_frozen n2 0
      have zz_1 := blk_frozen n2 1
      have zz_2 := blk_frozen n2 2
      have zz_3 := blk_frozen n2 3
      clear sx sy
      by_cases hx : w ≤ (x + 1) * P - 1
      · have hxd := decide_eq_true hx
        have ex : imin ((x + 1) * P - 1) (w - 1) = w - 1 := by unfold imin; rw [if_pos (by omega)]
        have EX := Lib.hid ex
        clear ex
        by_cases hy : h ≤ (y + 1) * P - 1
        · have hyd := decide_eq_true hy
          have ey : imin ((y + 1) * P - 1) (h - 1) = h - 1 := by unfold imin; rw [if_pos (by omega)]
          have EY := Lib.hid ey
          clear ey
          go_wp2_with fail
          refine bodyPost_ret (res_c rfl rfl (below_blk (below_alloc1 _ _) (blk_set (blk_set (blk_set (blk_set n2 0 _) 1 _) 2 _) 3 _)) agg_Rect rfl) rfl ?_
          refine ⟨?_, below_alloc ((((hB.setCell (by simp; omega) _).setCell (by simp; omega) _).setCell (by simp; omega) _).setCell (by simp; omega) _) _⟩
          rw [← HPk.out, EX.out, EY.out]
          rfl
        · have hyd := decide_eq_false hy
          have ey : imin ((y + 1) * P - 1) (h - 1) = (y + 1) * P - 1 := by unfold imin; rw [if_neg (by omega)]
          have EY := Lib.hid ey
          clear ey
          go_wp2_with fail
          refine bodyPost_ret (res_c rfl rfl (below_blk (below_alloc1 _ _) (blk_set (blk_set (blk_set (blk_set n2 0 _) 1 _) 2 _) 3 _)) agg_Rect rfl) rfl ?_
          refine ⟨?_, below_alloc ((((hB.setCell (by simp; omega) _).setCell (by simp; omega) _).setCell (by simp; omega) _).setCell (by simp; omega) _) _⟩
          rw [← HPk.out, EX.out, EY.out]
          rfl
      · have hxd := decide_eq_false hx
        have ex : imin ((x + 1) * P - 1) (w - 1) = (x + 1) * P - 1 := by unfold imin; rw [if_neg (by omega)]
        have EX := Lib.hid ex
        clear ex
        by_cases hy : h ≤ (y + 1) * P - 1
        · have hyd := decide_eq_true hy
          have ey : imin ((y + 1) * P - 1) (h - 1) = h - 1 := by unfold imin; rw [if_pos (by omega)]
          have EY := Lib.hid ey
          clear ey
          go_wp2_with fail
          refine bodyPost_ret (res_c rfl rfl (below_blk (below_alloc1 _ _) (blk_set (blk_set (blk_set (blk_set n2 0 _) 1 _) 2 _) 3 _)) agg_Rect rfl) rfl ?_
          refine ⟨?_, below_alloc ((((hB.setCell (by simp; omega) _).setCell (by simp; omega) _).setCell (by simp; omega) _).setCell (by simp; omega) _) _⟩
          rw [← HPk.out, EX.out, EY.out]
          rfl
        · have hyd := decide_eq_false hy
          have ey : imin ((y + 1) * P - 1) (h - 1) = (y + 1) * P - 1 := by unfold imin; rw [if_neg (by omega)]
          have EY := Lib.hid ey
          clear ey
          go_wp2_with fail
          refine bodyPost_ret (res_c rfl rfl (below_blk (below_alloc1 _ _) (blk_set (blk_set (blk_set (blk_set n2 0 _) 1 _) 2 _) 3 _)) agg_Rect rfl) rfl ?_
          refine ⟨?_, below_alloc ((((hB.setCell (by simp; omega) _).setCell (by simp; omega) _).setCell (by simp; omega) _).setCell (by simp; omega) _) _⟩
          rw [← HPk.out, EX.out, EY.out]
          rfl
    | succ m =>
      have hjk : j < k := by have := hj.out; omega
      have hd : decide (j < k) = true := decide_eq_true hjk
      have hjk2 : (j : Int) < 10 := by omega
      go_wp2_with fail
      go_roundg m
      case measure => omega
      case rel =>
        exact ⟨j + 1, 2 * P, by have := hj.out; exact (show j + 1 + m = k by omega), show (2 : Int) * P = 2 ^ (j + 1) by rw [hP.out, Int.pow_succ, Int.mul_comm], rfl, congrArg (Value.int .i64) (by push_cast; omega), rfl⟩
end Go.Proofs.Ytfnflgcalhiamaa

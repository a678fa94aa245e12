/- What a call may have turned in memory; the walk's small words. No statement of its own. -/
import Derived.Test.YtcomnpmkedabeaaDoorProg
import Derived.WalkKit
import Derived.KernelRfl
import Derived.Deep.QuietTactic
import Derived.BigQuiet
import Derived.Lib.Hide
import Derived.Lib.QuietBelow
import Derived.Deep.RegionWith
import Derived.Maps.AppendAt
import Derived.Deep.AppendLies
import Derived.Deep.OwnRows
import Derived.Laws.CopyOwn
set_option linter.unusedVariables false
set_option linter.unusedSimpArgs false
namespace Go.Proofs.YtcomnpmkedabeaaDoor
open Go.RowKit

/-- Of what was there, nothing but the blocks of S may have turned. -/
structure Mod (S : Nat → Prop) (w W : World) : Prop where
  os : W.os = w.os
  tape : W.tape = w.tape
  output : W.output = w.output
  size : w.heap.size ≤ W.heap.size
  block : ∀ k, k < w.heap.size → ¬ S k → W.heap[k]? = w.heap[k]?

theorem Mod.refl (S : Nat → Prop) (w : World) : Mod S w w := ⟨rfl, rfl, rfl, Nat.le_refl _, fun _ _ _ => rfl⟩
theorem Mod.of_below {S : Nat → Prop} {w W : World} (h : Below w.heap.size w W) : Mod S w W := ⟨h.os, h.tape, h.output, h.size, fun k hk _ => h.block k hk⟩
theorem Mod.below {S : Nat → Prop} {w W : World} {B : Nat} (h : Mod S w W) (hB : B ≤ w.heap.size) (hS : ∀ k, S k → B ≤ k) : Below B w W :=
  ⟨h.os, h.tape, h.output, h.size, fun k hk => h.block k (by omega) (fun hs => by have := hS k hs; omega)⟩
theorem Mod.mono {S S' : Nat → Prop} {w W : World} (h : Mod S w W) (hs : ∀ k, S k → S' k) : Mod S' w W := ⟨h.os, h.tape, h.output, h.size, fun k hk hn => h.block k hk (fun x => hn (hs k x))⟩
theorem Mod.trans {S S2 : Nat → Prop} {w W W2 : World} (h : Mod S w W) (k : Mod S2 W W2) (hs : ∀ i, S2 i → S i ∨ w.heap.size ≤ i) : Mod S w W2 :=
  ⟨k.os.trans h.os, k.tape.trans h.tape, k.output.trans h.output, Nat.le_trans h.size k.size, fun i hi hn =>
    (k.block i (Nat.lt_of_lt_of_le hi h.size) (fun h2 => (hs i h2).elim hn (fun h3 => by omega))).trans (h.block i hi hn)⟩
theorem Mod.then_below {S : Nat → Prop} {w W W2 : World} (h : Mod S w W) (k : Below W.heap.size W W2) : Mod S w W2 :=
  h.trans (Mod.of_below (S := fun _ => False) k) (fun _ x => x.elim)
theorem Mod.of_below_then {S : Nat → Prop} {w W W2 : World} (h : Below w.heap.size w W) (k : Mod S W W2) (hs : ∀ i, S i → i < w.heap.size ∨ w.heap.size ≤ i := fun i _ => Nat.lt_or_ge i _) : Mod S w W2 :=
  (Mod.of_below (S := S) h).trans k (fun _ x => .inl x)
theorem Mod.blk {S : Nat → Prop} {w W : World} (h : Mod S w W) {k : Nat} {o : Obj} (hk : w.heap[k]? = some o) (hn : ¬ S k) : W.heap[k]? = some o :=
  (h.block k (Array.getElem?_eq_some_iff.1 hk).1 hn).trans hk
theorem Mod.setCell {S : Nat → Prop} {w W : World} (h : Mod S w W) {p : Addr} (hp : S p.block ∨ w.heap.size ≤ p.block) (v : Value) : Mod S w (W.setCell p v) :=
  h.trans (S2 := fun k => k = p.block) ⟨rfl, rfl, rfl, by simp [World.setCell], fun k _ hn => Below.heap_setCell W p v k hn⟩ (fun i hi => by rw [hi]; exact hp)

/-- Below, step by step. -/
theorem below_next {w W W2 : World} (h : Below w.heap.size w W) (k : Below W.heap.size W W2) : Below w.heap.size w W2 :=
  h.trans ⟨k.os, k.tape, k.output, k.size, fun i hi => k.block i (Nat.lt_of_lt_of_le hi h.size)⟩
theorem below_alloc1 (w : World) (o : Obj) : Below w.heap.size w (w.alloc o) := (Below.refl _ _).alloc (Nat.le_refl _) o
theorem below_alloc {w W : World} (h : Below w.heap.size w W) (o : Obj) : Below w.heap.size w (W.alloc o) := h.alloc h.size o
theorem below_draws {w W : World} (h : Below w.heap.size w W) (n : Nat) : Below w.heap.size w (W.drewN n) := ⟨h.os, h.tape, h.output, h.size, h.block⟩
theorem below_blk {w W : World} (h : Below w.heap.size w W) {k : Nat} {o : Obj} (hk : w.heap[k]? = some o) : W.heap[k]? = some o :=
  (h.block k (Array.getElem?_eq_some_iff.1 hk).1).trans hk
theorem below_cell {w W : World} (h : Below w.heap.size w W) {a : Addr} {v : Value} (hc : w.cell? a = some v) : W.cell? a = some v :=
  (h.cell (World.block_lt_of_cell? w a hc)).trans hc

/-- A cell of a block that is known. -/
theorem blk_cell {W : World} {b : Nat} {cs : Array Value} {t : TypeId} {fr : Nat × Nat} (h : W.heap[b]? = some (.cells cs t fr)) (i : Nat) : W.cell? ⟨b, i, none⟩ = cs[i]? := by
  simp [World.cell?, h]
theorem cells_w {W : World} {b : Nat} {cs : Array Value} {t : TypeId} {fr : Nat × Nat} (h : W.heap[b]? = some (.cells cs t fr)) (i : Nat) {v : Value} (hv : cs[i]? = some v) : W.cell? ⟨b, i, none⟩ = some v := (blk_cell h i).trans hv
theorem blk_frozen {W : World} {b : Nat} {cs : Array Value} {t : TypeId} (h : W.heap[b]? = some (.cells cs t (0, 0))) (i : Nat) : W.frozen? ⟨b, i, none⟩ = false := by
  simp [World.frozen?, h]
theorem blk_set {W : World} {b : Nat} {cs : Array Value} {t : TypeId} {fr : Nat × Nat} (h : W.heap[b]? = some (.cells cs t fr)) (i : Nat) (v : Value) :
    (W.setCell ⟨b, i, none⟩ v).heap[b]? = some (.cells (cs.setIfInBounds i v) t fr) := by
  simp only [World.setCell, Array.getElem?_modify, h]
  simp
theorem blk_set_ne {W : World} {b : Nat} {o : Obj} (h : W.heap[b]? = some o) (p : Addr) (hn : p.block ≠ b) (v : Value) : (W.setCell p v).heap[b]? = some o :=
  (Below.heap_setCell W p v b (fun e => hn e.symm)).trans h
theorem blk_lt {W : World} {b : Nat} {o : Obj} (h : W.heap[b]? = some o) : b < W.heap.size := (Array.getElem?_eq_some_iff.1 h).1
theorem blk_new (W : World) (o : Obj) : (W.alloc o).heap[W.heap.size]? = some o := by
  show (W.heap.push o)[W.heap.size]? = _
  simp

theorem blk_new2 (W : World) (o o2 : Obj) : ((W.alloc o).alloc o2).heap[W.heap.size + 1]? = some o2 := by
  have := blk_new (W.alloc o) o2
  rwa [show (W.alloc o).heap.size = W.heap.size + 1 by simp] at this
theorem alloc_size (W : World) (o : Obj) : (W.alloc o).heap.size = W.heap.size + 1 := by simp

theorem ret_int {k : IntKind} {a b : Int} (h : a = b) : Ending.returned (.int k a) = .returned (.int k b) := by rw [h]
theorem ret2_int {k : IntKind} {a b : Int} {r : Value} (h : a = b) : Ending.returned (.tuple #[.int k a, r]) = .returned (.tuple #[.int k b, r]) := by rw [h]
theorem ret_bool {a b : Bool} (h : a = b) : Ending.returned (.bool a) = .returned (.bool b) := by rw [h]
theorem add_plain (g j : Nat) : (⟨g, 0, none⟩ : Addr).add j = ⟨g, j, none⟩ := by unfold Addr.add; split <;> simp_all
/-- A struct's type: how many cells. -/
structure AggTy (P : Program) (ty n : Nat) : Prop where
  desc : ∃ fs, P.underlying ty = some (.struct fs)
  size : (P.info? ty).map (·.size) = some n
theorem AggTy.load {P : Program} {ty : Nat} {cs : Array Value} (hS : AggTy P ty cs.size) {w : World} {g t : Nat} {fr : Nat × Nat} (hg : w.heap[g]? = some (.cells cs t fr)) :
    (loadVar ty ⟨g, 0, none⟩).run P w = .ok (.agg cs) w := by
  obtain ⟨⟨d, hu⟩, hi⟩ := hS
  exact run_loadVar_row w g t ty cs fr _ hg hu rfl hi
section
variable {P : Program} {fn : Func} {p u v x ty t g : Nat} {tmps cs : Array Value} {w : World} {fr : Nat × Nat}
theorem res_c (h : fn.results = #[.cell p ty]) (hp : tmps.getD p undef = .pointer (some ⟨g, 0, none⟩)) (hg : w.heap[g]? = some (.cells cs t fr)) {m : Nat} (hS : AggTy P ty m) (hm : cs.size = m) :
    (results fn tmps).run P w = .ok (.agg cs) w := by
  subst hm
  have hp' : tmps[p]?.getD undef = .pointer (some ⟨g, 0, none⟩) := by simpa using hp
  simp [results, h, hp', asAddr, hS.load hg]
theorem res_ct (h : fn.results = #[.cell p ty, .tmp u]) (hp : tmps.getD p undef = .pointer (some ⟨g, 0, none⟩)) (hg : w.heap[g]? = some (.cells cs t fr)) {m : Nat} (hS : AggTy P ty m) (hm : cs.size = m) :
    (results fn tmps).run P w = .ok (.tuple #[.agg cs, tmps.getD u undef]) w := by
  subst hm
  have hp' : tmps[p]?.getD undef = .pointer (some ⟨g, 0, none⟩) := by simpa using hp
  simp [results, h, hp', asAddr, hS.load hg]
theorem res_tc (h : fn.results = #[.tmp u, .cell p ty]) (hp : tmps.getD p undef = .pointer (some ⟨g, 0, none⟩)) (hg : w.heap[g]? = some (.cells cs t fr)) {m : Nat} (hS : AggTy P ty m) (hm : cs.size = m) :
    (results fn tmps).run P w = .ok (.tuple #[tmps.getD u undef, .agg cs]) w := by
  subst hm
  have hp' : tmps[p]?.getD undef = .pointer (some ⟨g, 0, none⟩) := by simpa using hp
  simp [results, h, hp', asAddr, hS.load hg]
theorem res_ctt (h : fn.results = #[.cell p ty, .tmp u, .tmp v]) (hp : tmps.getD p undef = .pointer (some ⟨g, 0, none⟩)) (hg : w.heap[g]? = some (.cells cs t fr)) {m : Nat} (hS : AggTy P ty m) (hm : cs.size = m) :
    (results fn tmps).run P w = .ok (.tuple #[.agg cs, tmps.getD u undef, tmps.getD v undef]) w := by
  subst hm
  have hp' : tmps[p]?.getD undef = .pointer (some ⟨g, 0, none⟩) := by simpa using hp
  simp [results, h, hp', asAddr, hS.load hg]
end
theorem agg_Cell : AggTy Tryd.prog 24 2 := ⟨⟨_, Tryd.underlying24⟩, by kernel_rfl⟩
theorem agg_Rect : AggTy Tryd.prog 73 4 := ⟨⟨_, Tryd.underlying73⟩, by kernel_rfl⟩

theorem own_mono {w : World} {base base' : Nat} {e : TypeId} {size n : Nat} {v : Value} {xs : List Value} (h : w.ownsRow base e size v n xs) (hb : base' ≤ base) : w.ownsRow base' e size v n xs := by
  refine ⟨h.1, ?_⟩
  rcases h.2 with h2 | ⟨g, cap, cur, h1, h2, h3⟩
  · exact .inl h2
  · exact .inr ⟨g, cap, cur, h1, Nat.le_trans hb h2, h3⟩
theorem own_below {w w1 : World} {base : Nat} {e : TypeId} {size n : Nat} {v : Value} {xs : List Value} (h : w.ownsRow base e size v n xs) (hb : Below w.heap.size w w1) : w1.ownsRow base e size v n xs := by
  refine ⟨h.1, ?_⟩
  rcases h.2 with h2 | ⟨g, cap, cur, h1, h2, h3, h4⟩
  · exact .inl h2
  · exact .inr ⟨g, cap, cur, h1, h2, below_blk hb h3, h4⟩
/-- An element is appended to a row of the call's own; its box has just been laid. -/
theorem append_el {P : Program} {ops : Array Oper} {rest : List Oper} {o : Oper} {a : Act} {Q : Exit → Act → World → Prop} {W : World} (base : Nat) (hgd : o.guard = none) (s x : Operand) (t e : TypeId) (z : Value) (size bytes : Nat)
    (ho : o.op = .call { callee := .builtin .append, args := #[s, x], argTypes := #[t, t] })
    (ht : P.underlying t = some (.slice e)) (hinfo : (P.info? e).map (fun i => (i.zero, i.size, i.bytes)) = some (some z, size, bytes)) (hz : z.cells.size = size) (hsz : 0 < size)
    (v : Value) (n : Nat) (xs : List Value) (ys : List Value) (hs : a.eval s = v) (B : Nat) (hx : a.eval x = .slice (some ⟨B, 0, none⟩) 1 1) (hB : B = W.heap.size) (hys : ys.length = size) (h1 : ∀ u ∈ ys, u.oneCell' = true)
    (HO : W.ownsRow base e size v n xs) (hbase : base ≤ W.heap.size) (hl : (n + 1) * bytes ≤ 140737488355328) (hn : n + 1 ≤ 9223372036854775807)
    (h : ∀ v1 w1, w1.ownsRow base e size v1 (n + 1) (xs ++ ys) → Below base W w1 → wpList P ops Q rest (a.put o.dst v1) w1) :
    wpList P ops Q (o :: rest) a (W.alloc (.cells ys.toArray e)) := by
  obtain ⟨i0, hi, hzz⟩ := Option.map_eq_some_iff.1 hinfo
  simp only [Prod.mk.injEq] at hzz
  obtain ⟨hz0, hz1, hz2⟩ := hzz
  subst hB
  refine wpList_append_own_at (W.alloc (.cells ys.toArray e)) hgd s x t ho base e i0 z size bytes ht hi hz0 hz1 hz2 hz hsz v n xs hs (HO.alloc _) ⟨W.heap.size, 0, none⟩ 1 1 ys hx (by simpa using hys)
    (World.news_of_block (cs := ys.toArray) (t := e) (fr := (0, 0)) (heap_alloc_new W _)) h1 (by simp only [maxLen]; omega) hl (by simp; omega) ?_
  intro v1 w1 hown hg _ _
  exact h v1 w1 hown ((Below.refl _ _).alloc hbase _ |>.grown hg (by simp; omega) (fun k hk => (HO.lt k hk).1))

theorem madeCells_one (z : Value) (n : Nat) : madeCells #[z] n = Array.replicate n z := by
  apply Array.ext
  · simp [madeCells]
  · intro i h1 h2
    simp [madeCells, Nat.mod_one]
/-- make([]T, n), each element one cell. -/
theorem make_one {P : Program} {ops : Array Oper} {rest : List Oper} {o : Oper} {a : Act} {Q : Exit → Act → World → Prop} {W : World} (hgd : o.guard = none) (l c : Operand) (t : TypeId) (hop : o.op = Op.makeSlice t l c)
    (e : TypeId) (z : Value) (bytes : Nat) (ht : P.underlying t = some (.slice e)) (hinfo : (P.info? e).map (fun i => (i.zero, i.size, i.bytes)) = some (some z, 1, bytes)) (hz : z.cells = #[z])
    (n : Nat) (hl : a.eval l = .int .i64 (n : Int)) (hc : a.eval c = .int .i64 (n : Int)) (b2 : bytes * n ≤ 281474976710656) (b3 : n ≤ 281474976710656)
    (h : wpList P ops Q rest (a.put o.dst (.slice (some ⟨W.heap.size, 0, none⟩) n n)) (W.alloc (.cells (Array.replicate n z) e))) : wpList P ops Q (o :: rest) a W := by
  refine wpList_plain hgd fun K hK => ?_
  have hr := run_make_row' (P := P) t e z bytes ht hinfo hz .i64 .i64 n b2 (by omega) W
  rw [madeCells_one] at hr
  unfold Oper.wp
  simp only [execOp, hop, hl, hc, Sem.run_bind, Sem.run_pure, hr, Result.andThen_ok]
  exact hK _ _ h

theorem want_step {c : Prop} [Decidable c] {t e : Prop} (h : c) (k : t) : if c then t else e := by rw [if_pos h]; exact k
/-- copy, as one step of a region that draws its order. -/
theorem wp_copy {P : Program} {o : Oper} {a : Act} {w : World} {K : Act → World → Prop} {Q : Exit → Act → World → Prop} (hgd : o.guard = none) (d s : Operand) (dT sT : TypeId)
    (ho : o.op = .call { callee := .builtin .copy, args := #[d, s], argTypes := #[dT, sT] }) (elem : TypeId) (hu : P.underlying dT = some (.slice elem)) (hsz : (P.info? elem).map (·.size) = some 1)
    (dp sp : Option Addr) (dLen dCap sLen sCap : Nat) (hd : a.eval d = .slice dp dLen dCap) (hs : a.eval s = .slice sp sLen sCap)
    (g off : Nat) (cur : List Value) (t : TypeId) (hg : w.heap[g]? = some (.cells cur.toArray t (0, 0))) (cs : List Value) (hn : cs.length = Nat.min sLen dLen)
    (hpos : 0 < cs.length → dp = some ⟨g, off, none⟩ ∧ ∃ ad, sp = some ad ∧ ∀ j v, cs[j]? = some v → w.cell? (ad.add j) = some v)
    (hfit : off + cs.length ≤ cur.length) (h1 : ∀ v ∈ cs, v.oneCell' = true) (B : Nat) (w0 : World) (hb : Below B w0 w) (hBg : B ≤ g)
    (h : ∀ w', Hid (w'.heap[g]? = some (.cells (splice cur off cs).toArray t (0, 0))) → Below B w0 w' → K (a.put o.dst (goInt cs.length)) w') : Oper.wp P o a w K Q := by
  have := step_copy_splice (P := P) (ops := #[]) (E := False) (Q := Q) hgd d s dT sT ho elem hu hsz dp sp dLen dCap sLen sCap hd hs g off cur t hg cs hn hpos hfit h1 B w0 hb hBg h
  have hw : Region.wanted o (yielded #[] a.tmps) = true := by simp [Region.wanted, hgd]
  rwa [if_pos hw] at this

/-- The greater, the lesser of two whole numbers. -/
def imax (a b : Int) : Int := if a < b then b else a
def imin (a b : Int) : Int := if b < a then b else a
theorem max_int (ats : Array TypeId) (ty : TypeId) (k k' : IntKind) (x y : Int) : Builtin.max_ ats ty #[.int k x, .int k' y] = pure (.int k (imax x y)) := by
  simp only [Builtin.max_, List.foldlM_cons, List.foldlM_nil, Builtin.max2, imax]; rfl
theorem min_int (ats : Array TypeId) (ty : TypeId) (k k' : IntKind) (x y : Int) : Builtin.min_ ats ty #[.int k x, .int k' y] = pure (.int k (imin x y)) := by
  simp only [Builtin.min_, List.foldlM_cons, List.foldlM_nil, Builtin.min2, imin]; rfl
attribute [go_sem] max_int min_int

theorem mul_bd {a b A B : Int} (h0 : 0 ≤ a) (h1 : a ≤ A) (h2 : 0 ≤ b) (h3 : b ≤ B) : 0 ≤ a * b ∧ a * b ≤ A * B :=
  ⟨Int.mul_nonneg h0 h2, Int.le_trans (Int.mul_le_mul_of_nonneg_left h3 h0) (Int.mul_le_mul_of_nonneg_right h1 (Int.le_trans h2 h3))⟩
theorem idx_lt {x y w h : Int} (hx : 0 ≤ x) (hx2 : x < w) (hy : 0 ≤ y) (hy2 : y < h) : 0 ≤ y * w + x ∧ y * w + x < w * h := by
  have h1 := Int.mul_le_mul_of_nonneg_right (show y + 1 ≤ h by omega) (show 0 ≤ w by omega)
  have h2 := Int.mul_nonneg hy (show 0 ≤ w by omega)
  rw [Int.add_mul] at h1
  rw [Int.mul_comm w h]
  omega
theorem idx_inj {x y x2 y2 w : Int} (hx : 0 ≤ x) (hx2 : x < w) (hy : 0 ≤ y) (kx : 0 ≤ x2) (kx2 : x2 < w) (ky : 0 ≤ y2) (e : (y * w + x).toNat = (y2 * w + x2).toNat) : x = x2 ∧ y = y2 := by
  have h1 := Int.mul_nonneg hy (show 0 ≤ w by omega)
  have h2 := Int.mul_nonneg ky (show 0 ≤ w by omega)
  have e2 : y * w + x = y2 * w + x2 := by omega
  have d1 : (y * w + x) / w = y := by rw [Int.mul_comm y w, Int.mul_add_ediv_left _ _ (by omega), Int.ediv_eq_zero_of_lt hx hx2, Int.add_zero]
  have d2 : (y2 * w + x2) / w = y2 := by rw [Int.mul_comm y2 w, Int.mul_add_ediv_left _ _ (by omega), Int.ediv_eq_zero_of_lt kx kx2, Int.add_zero]
  have ey : y = y2 := by rw [← d1, ← d2, e2]
  subst ey
  exact ⟨by omega, rfl⟩
theorem wrap64_id {x : Int} (h : -4611686018427387904 ≤ x) (h' : x ≤ 4611686018427387904) : wrap64 x = x := by unfold wrap64; omega
theorem div_bd {a b c : Int} (h0 : 0 ≤ a) (hb : 0 < b) (h1 : a < c * b) : 0 ≤ a / b ∧ a / b < c := ⟨Int.ediv_nonneg h0 (Int.le_of_lt hb), Int.ediv_lt_of_lt_mul hb h1⟩
theorem mask15 (x : BitVec 64) : x &&& ~~~(15 : BitVec 64) = (x >>> 4) <<< 4 := by
  apply BitVec.eq_of_getLsbD_eq
  intro i hi
  have h : ∀ i, i < 64 → (15 : BitVec 64).getLsbD i = decide (i < 4) := by decide
  rw [BitVec.getLsbD_and, BitVec.getLsbD_not, BitVec.getLsbD_shiftLeft, BitVec.getLsbD_ushiftRight, h i hi]
  by_cases h4 : i < 4
  · simp [h4]
  · simp [h4, hi, show 4 + (i - 4) = i by omega]
theorem andnot15 (n : Int) (h0 : 0 ≤ n) (h1 : n < 1048576) : bits .andNot .i64 n 15 = n / 16 * 16 := by
  obtain ⟨m, rfl⟩ := Int.eq_ofNat_of_zero_le h0
  have hm : m < 1048576 := by omega
  show IntKind.i64.wrap ((BitVec.ofInt 64 (m : Int) &&& ~~~(15 : BitVec 64)).toNat : Int) = _
  rw [mask15, BitVec.toNat_shiftLeft, BitVec.toNat_ushiftRight, BitVec.ofInt_natCast, BitVec.toNat_ofNat, Nat.mod_eq_of_lt (show m < 2 ^ 64 by omega), Nat.shiftRight_eq_div_pow, Nat.shiftLeft_eq]
  have : m / 2 ^ 4 * 2 ^ 4 % 2 ^ 64 = m / 16 * 16 := by omega
  rw [this]
  rw [IntWalk.i64_in _ (by omega)]
  omega
/-- A function of places, as one of numbers, row by row. -/
def lin (g : Int → Int → Int) (w : Int) (i : Nat) : Int := g ((i : Int) % w) ((i : Int) / w)
theorem lin_at {w h : Int} {i : Nat} (hw : 0 < w) (hi : (i : Int) < w * h) : 0 ≤ (i : Int) % w ∧ (i : Int) % w < w ∧ 0 ≤ (i : Int) / w ∧ (i : Int) / w < h ∧ (i : Int) / w * w + (i : Int) % w = i :=
  ⟨Int.emod_nonneg _ (by omega), Int.emod_lt_of_pos _ hw, Int.ediv_nonneg (by omega) (by omega), Int.ediv_lt_of_lt_mul hw (by rw [Int.mul_comm]; exact hi), Int.mul_comm .. ▸ Int.mul_ediv_add_emod (i : Int) w⟩
theorem lin_idx {g : Int → Int → Int} {w x y : Int} (b0 : 0 ≤ x) (b1 : x < w) (b2 : 0 ≤ y) : lin g w (y * w + x).toNat = g x y := by
  have h := Int.mul_nonneg b2 (show 0 ≤ w by omega)
  unfold lin
  rw [Int.toNat_of_nonneg (by omega), Int.mul_comm y w, Int.mul_add_emod_self_left, Int.mul_add_ediv_left _ _ (by omega), Int.emod_eq_of_lt b0 b1, Int.ediv_eq_zero_of_lt b0 b1, Int.add_zero]
theorem below_weaken {B : Nat} {w W : World} (h : Below w.heap.size w W) (hB : B ≤ w.heap.size) : Below B w W := h.mono hB
end Go.Proofs.YtcomnpmkedabeaaDoor

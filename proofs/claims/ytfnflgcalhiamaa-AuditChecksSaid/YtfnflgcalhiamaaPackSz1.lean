/- Texts of this claim, joined: Base, Room, Find64, Land, Lift. -/
import Derived.Test.YtfnflgcalhiamaaProg
import Derived.WalkKit
import Derived.KernelRfl
import Derived.Deep.QuietTactic
import Derived.BigQuiet
import Derived.Lib.Hide
import Derived.Lib.QuietBelow
import Derived.Deep.RegionWith
import Derived.Maps.AppendAt
import Derived.Deep.AppendLies
import Derived.Deep.OwnRows
import Derived.Laws.CopyOwn
import Derived.Deep.LoopGhost
import Derived.Test.YtfnflgcalhiamaaRows
import Derived.ProofKit
import Derived.OpenShut
import Derived.ShutString
import Derived.ChangeOld
import Derived.Below
import Derived.Lib.SmallJoins
/- What a call may have turned in memory; the walk's small words. No statement of its own. -/
set_option linter.unusedVariables false
set_option linter.unusedSimpArgs false
namespace Go.Proofs.Ytfnflgcalhiamaa
open Go.RowKit

/-- Of what was there, nothing but the blocks of S may have turned. -/
structure Mod (S : Nat → Prop) (w W : World) : Prop where
  os : W.os = w.os
  tape : W.tape = w.tape
  output : W.output = w.output
  size : w.heap.size ≤ W.heap.size
  block : ∀ k, k < w.heap.size → ¬ S k → W.heap[k]? = w.heap[k]?

theorem Mod.refl (S : Nat → Prop) (w : World) : Mod S w w := ⟨rfl, rfl, rfl, Nat.le_refl _, fun _ _ _ => rfl⟩
theorem Mod.of_below {S : Nat → Prop} {w W : World} (h : Below w.heap.size w W) : Mod S w W := ⟨h.os, h.tape, h.output, h.size, fun k hk _ => h.block k hk⟩
theorem Mod.below {S : Nat → Prop} {w W : World} {B : Nat} (h : Mod S w W) (hB : B ≤ w.heap.size) (hS : ∀ k, S k → B ≤ k) : Below B w W :=
  ⟨h.os, h.tape, h.output, h.size, fun k hk => h.block k (by omega) (fun hs => by have := hS k hs; omega)⟩
theorem Mod.mono {S S' : Nat → Prop} {w W : World} (h : Mod S w W) (hs : ∀ k, S k → S' k) : Mod S' w W := ⟨h.os, h.tape, h.output, h.size, fun k hk hn => h.block k hk (fun x => hn (hs k x))⟩
theorem Mod.trans {S S2 : Nat → Prop} {w W W2 : World} (h : Mod S w W) (k : Mod S2 W W2) (hs : ∀ i, S2 i → S i ∨ w.heap.size ≤ i) : Mod S w W2 :=
  ⟨k.os.trans h.os, k.tape.trans h.tape, k.output.trans h.output, Nat.le_trans h.size k.size, fun i hi hn =>
    (k.block i (Nat.lt_of_lt_of_le hi h.size) (fun h2 => (hs i h2).elim hn (fun h3 => by omega))).trans (h.block i hi hn)⟩
theorem Mod.then_below {S : Nat → Prop} {w W W2 : World} (h : Mod S w W) (k : Below W.heap.size W W2) : Mod S w W2 :=
  h.trans (Mod.of_below (S := fun _ => False) k) (fun _ x => x.elim)
theorem Mod.of_below_then {S : Nat → Prop} {w W W2 : World} (h : Below w.heap.size w W) (k : Mod S W W2) (hs : ∀ i, S i → i < w.heap.size ∨ w.heap.size ≤ i := fun i _ => Nat.lt_or_ge i _) : Mod S w W2 :=
  (Mod.of_below (S := S) h).trans k (fun _ x => .inl x)
theorem Mod.blk {S : Nat → Prop} {w W : World} (h : Mod S w W) {k : Nat} {o : Obj} (hk : w.heap[k]? = some o) (hn : ¬ S k) : W.heap[k]? = some o :=
  (h.block k (Array.getElem?_eq_some_iff.1 hk).1 hn).trans hk
theorem Mod.setCell {S : Nat → Prop} {w W : World} (h : Mod S w W) {p : Addr} (hp : S p.block ∨ w.heap.size ≤ p.block) (v : Value) : Mod S w (W.setCell p v) :=
  h.trans (S2 := fun k => k = p.block) ⟨rfl, rfl, rfl, by simp [World.setCell], fun k _ hn => Below.heap_setCell W p v k hn⟩ (fun i hi => by rw [hi]; exact hp)

/-- Below, step by step. -/
theorem below_next {w W W2 : World} (h : Below w.heap.size w W) (k : Below W.heap.size W W2) : Below w.heap.size w W2 :=
  h.trans ⟨k.os, k.tape, k.output, k.size, fun i hi => k.block i (Nat.lt_of_lt_of_le hi h.size)⟩
theorem below_alloc1 (w : World) (o : Obj) : Below w.heap.size w (w.alloc o) := (Below.refl _ _).alloc (Nat.le_refl _) o
theorem below_alloc {w W : World} (h : Below w.heap.size w W) (o : Obj) : Below w.heap.size w (W.alloc o) := h.alloc h.size o
theorem below_draws {w W : World} (h : Below w.heap.size w W) (n : Nat) : Below w.heap.size w (W.drewN n) := ⟨h.os, h.tape, h.output, h.size, h.block⟩
theorem below_blk {w W : World} (h : Below w.heap.size w W) {k : Nat} {o : Obj} (hk : w.heap[k]? = some o) : W.heap[k]? = some o :=
  (h.block k (Array.getElem?_eq_some_iff.1 hk).1).trans hk
theorem below_cell {w W : World} (h : Below w.heap.size w W) {a : Addr} {v : Value} (hc : w.cell? a = some v) : W.cell? a = some v :=
  (h.cell (World.block_lt_of_cell? w a hc)).trans hc

/-- A cell of a block that is known. -/
theorem blk_cell {W : World} {b : Nat} {cs : Array Value} {t : TypeId} {fr : Nat × Nat} (h : W.heap[b]? = some (.cells cs t fr)) (i : Nat) : W.cell? ⟨b, i, none⟩ = cs[i]? := by
  simp [World.cell?, h]
theorem cells_w {W : World} {b : Nat} {cs : Array Value} {t : TypeId} {fr : Nat × Nat} (h : W.heap[b]? = some (.cells cs t fr)) (i : Nat) {v : Value} (hv : cs[i]? = some v) : W.cell? ⟨b, i, none⟩ = some v := (blk_cell h i).trans hv
theorem blk_frozen {W : World} {b : Nat} {cs : Array Value} {t : TypeId} (h : W.heap[b]? = some (.cells cs t (0, 0))) (i : Nat) : W.frozen? ⟨b, i, none⟩ = false := by
  simp [World.frozen?, h]
theorem blk_set {W : World} {b : Nat} {cs : Array Value} {t : TypeId} {fr : Nat × Nat} (h : W.heap[b]? = some (.cells cs t fr)) (i : Nat) (v : Value) :
    (W.setCell ⟨b, i, none⟩ v).heap[b]? = some (.cells (cs.setIfInBounds i v) t fr) := by
  simp only [World.setCell, Array.getElem?_modify, h]
  simp
theorem blk_set_ne {W : World} {b : Nat} {o : Obj} (h : W.heap[b]? = some o) (p : Addr) (hn : p.block ≠ b) (v : Value) : (W.setCell p v).heap[b]? = some o :=
  (Below.heap_setCell W p v b (fun e => hn e.symm)).trans h
theorem blk_lt {W : World} {b : Nat} {o : Obj} (h : W.heap[b]? = some o) : b < W.heap.size := (Array.getElem?_eq_some_iff.1 h).1
theorem blk_new (W : World) (o : Obj) : (W.alloc o).heap[W.heap.size]? = some o := by
  show (W.heap.push o)[W.heap.size]? = _
  simp

theorem blk_new2 (W : World) (o o2 : Obj) : ((W.alloc o).alloc o2).heap[W.heap.size + 1]? = some o2 := by
  have := blk_new (W.alloc o) o2
  rwa [show (W.alloc o).heap.size = W.heap.size + 1 by simp] at this
theorem alloc_size (W : World) (o : Obj) : (W.alloc o).heap.size = W.heap.size + 1 := by simp

theorem ret_int {k : IntKind} {a b : Int} (h : a = b) : Ending.returned (.int k a) = .returned (.int k b) := by rw [h]
theorem ret2_int {k : IntKind} {a b : Int} {r : Value} (h : a = b) : Ending.returned (.tuple #[.int k a, r]) = .returned (.tuple #[.int k b, r]) := by rw [h]
theorem ret_bool {a b : Bool} (h : a = b) : Ending.returned (.bool a) = .returned (.bool b) := by rw [h]
theorem add_plain (g j : Nat) : (⟨g, 0, none⟩ : Addr).add j = ⟨g, j, none⟩ := by unfold Addr.add; split <;> simp_all
/-- A struct's type: how many cells. -/
structure AggTy (P : Program) (ty n : Nat) : Prop where
  desc : ∃ fs, P.underlying ty = some (.struct fs)
  size : (P.info? ty).map (·.size) = some n
theorem AggTy.load {P : Program} {ty : Nat} {cs : Array Value} (hS : AggTy P ty cs.size) {w : World} {g t : Nat} {fr : Nat × Nat} (hg : w.heap[g]? = some (.cells cs t fr)) :
    (loadVar ty ⟨g, 0, none⟩).run P w = .ok (.agg cs) w := by
  obtain ⟨⟨d, hu⟩, hi⟩ := hS
  exact run_loadVar_row w g t ty cs fr _ hg hu rfl hi
section
variable {P : Program} {fn : Func} {p u v x ty t g : Nat} {tmps cs : Array Value} {w : World} {fr : Nat × Nat}
theorem res_c (h : fn.results = #[.cell p ty]) (hp : tmps.getD p undef = .pointer (some ⟨g, 0, none⟩)) (hg : w.heap[g]? = some (.cells cs t fr)) {m : Nat} (hS : AggTy P ty m) (hm : cs.size = m) :
    (results fn tmps).run P w = .ok (.agg cs) w := by
  subst hm
  have hp' : tmps[p]?.getD undef = .pointer (some ⟨g, 0, none⟩) := by simpa using hp
  simp [results, h, hp', asAddr, hS.load hg]
theorem res_ct (h : fn.results = #[.cell p ty, .tmp u]) (hp : tmps.getD p undef = .pointer (some ⟨g, 0, none⟩)) (hg : w.heap[g]? = some (.cells cs t fr)) {m : Nat} (hS : AggTy P ty m) (hm : cs.size = m) :
    (results fn tmps).run P w = .ok (.tuple #[.agg cs, tmps.getD u undef]) w := by
  subst hm
  have hp' : tmps[p]?.getD undef = .pointer (some ⟨g, 0, none⟩) := by simpa using hp
  simp [results, h, hp', asAddr, hS.load hg]
theorem res_tc (h : fn.results = #[.tmp u, .cell p ty]) (hp : tmps.getD p undef = .pointer (some ⟨g, 0, none⟩)) (hg : w.heap[g]? = some (.cells cs t fr)) {m : Nat} (hS : AggTy P ty m) (hm : cs.size = m) :
    (results fn tmps).run P w = .ok (.tuple #[tmps.getD u undef, .agg cs]) w := by
  subst hm
  have hp' : tmps[p]?.getD undef = .pointer (some ⟨g, 0, none⟩) := by simpa using hp
  simp [results, h, hp', asAddr, hS.load hg]
theorem res_ctt (h : fn.results = #[.cell p ty, .tmp u, .tmp v]) (hp : tmps.getD p undef = .pointer (some ⟨g, 0, none⟩)) (hg : w.heap[g]? = some (.cells cs t fr)) {m : Nat} (hS : AggTy P ty m) (hm : cs.size = m) :
    (results fn tmps).run P w = .ok (.tuple #[.agg cs, tmps.getD u undef, tmps.getD v undef]) w := by
  subst hm
  have hp' : tmps[p]?.getD undef = .pointer (some ⟨g, 0, none⟩) := by simpa using hp
  simp [results, h, hp', asAddr, hS.load hg]
end
theorem agg_Cell : AggTy Try.prog 53 2 := ⟨⟨_, Try.underlying53⟩, by kernel_rfl⟩
theorem agg_Rect : AggTy Try.prog 71 4 := ⟨⟨_, Try.underlying71⟩, by kernel_rfl⟩

theorem own_mono {w : World} {base base' : Nat} {e : TypeId} {size n : Nat} {v : Value} {xs : List Value} (h : w.ownsRow base e size v n xs) (hb : base' ≤ base) : w.ownsRow base' e size v n xs := by
  refine ⟨h.1, ?_⟩
  rcases h.2 with h2 | ⟨g, cap, cur, h1, h2, h3⟩
  · exact .inl h2
  · exact .inr ⟨g, cap, cur, h1, Nat.le_trans hb h2, h3⟩
theorem own_below {w w1 : World} {base : Nat} {e : TypeId} {size n : Nat} {v : Value} {xs : List Value} (h : w.ownsRow base e size v n xs) (hb : Below w.heap.size w w1) : w1.ownsRow base e size v n xs := by
  refine ⟨h.1, ?_⟩
  rcases h.2 with h2 | ⟨g, cap, cur, h1, h2, h3, h4⟩
  · exact .inl h2
  · exact .inr ⟨g, cap, cur, h1, h2, below_blk hb h3, h4⟩
/-- An element is appended to a row of the call's own; its box has just been laid. -/
theorem append_el {P : Program} {ops : Array Oper} {rest : List Oper} {o : Oper} {a : Act} {Q : Exit → Act → World → Prop} {W : World} (base : Nat) (hgd : o.guard = none) (s x : Operand) (t e : TypeId) (z : Value) (size bytes : Nat)
    (ho : o.op = .call { callee := .builtin .append, args := #[s, x], argTypes := #[t, t] })
    (ht : P.underlying t = some (.slice e)) (hinfo : (P.info? e).map (fun i => (i.zero, i.size, i.bytes)) = some (some z, size, bytes)) (hz : z.cells.size = size) (hsz : 0 < size)
    (v : Value) (n : Nat) (xs : List Value) (ys : List Value) (hs : a.eval s = v) (B : Nat) (hx : a.eval x = .slice (some ⟨B, 0, none⟩) 1 1) (hB : B = W.heap.size) (hys : ys.length = size) (h1 : ∀ u ∈ ys, u.oneCell' = true)
    (HO : W.ownsRow base e size v n xs) (hbase : base ≤ W.heap.size) (hl : (n + 1) * bytes ≤ 140737488355328) (hn : n + 1 ≤ 9223372036854775807)
    (h : ∀ v1 w1, w1.ownsRow base e size v1 (n + 1) (xs ++ ys) → Below base W w1 → wpList P ops Q rest (a.put o.dst v1) w1) :
    wpList P ops Q (o :: rest) a (W.alloc (.cells ys.toArray e)) := by
  obtain ⟨i0, hi, hzz⟩ := Option.map_eq_some_iff.1 hinfo
  simp only [Prod.mk.injEq] at hzz
  obtain ⟨hz0, hz1, hz2⟩ := hzz
  subst hB
  refine wpList_append_own_at (W.alloc (.cells ys.toArray e)) hgd s x t ho base e i0 z size bytes ht hi hz0 hz1 hz2 hz hsz v n xs hs (HO.alloc _) ⟨W.heap.size, 0, none⟩ 1 1 ys hx (by simpa using hys)
    (World.news_of_block (cs := ys.toArray) (t := e) (fr := (0, 0)) (heap_alloc_new W _)) h1 (by simp only [maxLen]; omega) hl (by simp; omega) ?_
  intro v1 w1 hown hg _ _
  exact h v1 w1 hown ((Below.refl _ _).alloc hbase _ |>.grown hg (by simp; omega) (fun k hk => (HO.lt k hk).1))

theorem madeCells_one (z : Value) (n : Nat) : madeCells #[z] n = Array.replicate n z := by
  apply Array.ext
  · simp [madeCells]
  · intro i h1 h2
    simp [madeCells, Nat.mod_one]
/-- make([]T, n), each element one cell. -/
theorem make_one {P : Program} {ops : Array Oper} {rest : List Oper} {o : Oper} {a : Act} {Q : Exit → Act → World → Prop} {W : World} (hgd : o.guard = none) (l c : Operand) (t : TypeId) (hop : o.op = Op.makeSlice t l c)
    (e : TypeId) (z : Value) (bytes : Nat) (ht : P.underlying t = some (.slice e)) (hinfo : (P.info? e).map (fun i => (i.zero, i.size, i.bytes)) = some (some z, 1, bytes)) (hz : z.cells = #[z])
    (n : Nat) (hl : a.eval l = .int .i64 (n : Int)) (hc : a.eval c = .int .i64 (n : Int)) (b2 : bytes * n ≤ 281474976710656) (b3 : n ≤ 281474976710656)
    (h : wpList P ops Q rest (a.put o.dst (.slice (some ⟨W.heap.size, 0, none⟩) n n)) (W.alloc (.cells (Array.replicate n z) e))) : wpList P ops Q (o :: rest) a W := by
  refine wpList_plain hgd fun K hK => ?_
  have hr := run_make_row' (P := P) t e z bytes ht hinfo hz .i64 .i64 n b2 (by omega) W
  rw [madeCells_one] at hr
  unfold Oper.wp
  simp only [execOp, hop, hl, hc, Sem.run_bind, Sem.run_pure, hr, Result.andThen_ok]
  exact hK _ _ h

theorem want_step {c : Prop} [Decidable c] {t e : Prop} (h : c) (k : t) : if c then t else e := by rw [if_pos h]; exact k
/-- copy, as one step of a region that draws its order. -/
theorem wp_copy {P : Program} {o : Oper} {a : Act} {w : World} {K : Act → World → Prop} {Q : Exit → Act → World → Prop} (hgd : o.guard = none) (d s : Operand) (dT sT : TypeId)
    (ho : o.op = .call { callee := .builtin .copy, args := #[d, s], argTypes := #[dT, sT] }) (elem : TypeId) (hu : P.underlying dT = some (.slice elem)) (hsz : (P.info? elem).map (·.size) = some 1)
    (dp sp : Option Addr) (dLen dCap sLen sCap : Nat) (hd : a.eval d = .slice dp dLen dCap) (hs : a.eval s = .slice sp sLen sCap)
    (g off : Nat) (cur : List Value) (t : TypeId) (hg : w.heap[g]? = some (.cells cur.toArray t (0, 0))) (cs : List Value) (hn : cs.length = Nat.min sLen dLen)
    (hpos : 0 < cs.length → dp = some ⟨g, off, none⟩ ∧ ∃ ad, sp = some ad ∧ ∀ j v, cs[j]? = some v → w.cell? (ad.add j) = some v)
    (hfit : off + cs.length ≤ cur.length) (h1 : ∀ v ∈ cs, v.oneCell' = true) (B : Nat) (w0 : World) (hb : Below B w0 w) (hBg : B ≤ g)
    (h : ∀ w', Hid (w'.heap[g]? = some (.cells (splice cur off cs).toArray t (0, 0))) → Below B w0 w' → K (a.put o.dst (goInt cs.length)) w') : Oper.wp P o a w K Q := by
  have := step_copy_splice (P := P) (ops := #[]) (E := False) (Q := Q) hgd d s dT sT ho elem hu hsz dp sp dLen dCap sLen sCap hd hs g off cur t hg cs hn hpos hfit h1 B w0 hb hBg h
  have hw : Region.wanted o (yielded #[] a.tmps) = true := by simp [Region.wanted, hgd]
  rwa [if_pos hw] at this

/-- The greater, the lesser of two whole numbers. -/
def imax (a b : Int) : Int := if a < b then b else a
def imin (a b : Int) : Int := if b < a then b else a
theorem max_int (ats : Array TypeId) (ty : TypeId) (k k' : IntKind) (x y : Int) : Builtin.max_ ats ty #[.int k x, .int k' y] = pure (.int k (imax x y)) := by
  simp only [Builtin.max_, List.foldlM_cons, List.foldlM_nil, Builtin.max2, imax]; rfl
theorem min_int (ats : Array TypeId) (ty : TypeId) (k k' : IntKind) (x y : Int) : Builtin.min_ ats ty #[.int k x, .int k' y] = pure (.int k (imin x y)) := by
  simp only [Builtin.min_, List.foldlM_cons, List.foldlM_nil, Builtin.min2, imin]; rfl
attribute [go_sem] max_int min_int

theorem mul_bd {a b A B : Int} (h0 : 0 ≤ a) (h1 : a ≤ A) (h2 : 0 ≤ b) (h3 : b ≤ B) : 0 ≤ a * b ∧ a * b ≤ A * B :=
  ⟨Int.mul_nonneg h0 h2, Int.le_trans (Int.mul_le_mul_of_nonneg_left h3 h0) (Int.mul_le_mul_of_nonneg_right h1 (Int.le_trans h2 h3))⟩
theorem idx_lt {x y w h : Int} (hx : 0 ≤ x) (hx2 : x < w) (hy : 0 ≤ y) (hy2 : y < h) : 0 ≤ y * w + x ∧ y * w + x < w * h := by
  have h1 := Int.mul_le_mul_of_nonneg_right (show y + 1 ≤ h by omega) (show 0 ≤ w by omega)
  have h2 := Int.mul_nonneg hy (show 0 ≤ w by omega)
  rw [Int.add_mul] at h1
  rw [Int.mul_comm w h]
  omega
theorem idx_inj {x y x2 y2 w : Int} (hx : 0 ≤ x) (hx2 : x < w) (hy : 0 ≤ y) (kx : 0 ≤ x2) (kx2 : x2 < w) (ky : 0 ≤ y2) (e : (y * w + x).toNat = (y2 * w + x2).toNat) : x = x2 ∧ y = y2 := by
  have h1 := Int.mul_nonneg hy (show 0 ≤ w by omega)
  have h2 := Int.mul_nonneg ky (show 0 ≤ w by omega)
  have e2 : y * w + x = y2 * w + x2 := by omega
  have d1 : (y * w + x) / w = y := by rw [Int.mul_comm y w, Int.mul_add_ediv_left _ _ (by omega), Int.ediv_eq_zero_of_lt hx hx2, Int.add_zero]
  have d2 : (y2 * w + x2) / w = y2 := by rw [Int.mul_comm y2 w, Int.mul_add_ediv_left _ _ (by omega), Int.ediv_eq_zero_of_lt kx kx2, Int.add_zero]
  have ey : y = y2 := by rw [← d1, ← d2, e2]
  subst ey
  exact ⟨by omega, rfl⟩
theorem wrap64_id {x : Int} (h : -4611686018427387904 ≤ x) (h' : x ≤ 4611686018427387904) : wrap64 x = x := by unfold wrap64; omega
theorem div_bd {a b c : Int} (h0 : 0 ≤ a) (hb : 0 < b) (h1 : a < c * b) : 0 ≤ a / b ∧ a / b < c := ⟨Int.ediv_nonneg h0 (Int.le_of_lt hb), Int.ediv_lt_of_lt_mul hb h1⟩
theorem mask15 (x : BitVec 64) : x &&& ~~~(15 : BitVec 64) = (x >>> 4) <<< 4 := by
  apply BitVec.eq_of_getLsbD_eq
  intro i hi
  have h : ∀ i, i < 64 → (15 : BitVec 64).getLsbD i = decide (i < 4) := by decide
  rw [BitVec.getLsbD_and, BitVec.getLsbD_not, BitVec.getLsbD_shiftLeft, BitVec.getLsbD_ushiftRight, h i hi]
  by_cases h4 : i < 4
  · simp [h4]
  · simp [h4, hi, show 4 + (i - 4) = i by omega]
theorem andnot15 (n : Int) (h0 : 0 ≤ n) (h1 : n < 1048576) : bits .andNot .i64 n 15 = n / 16 * 16 := by
  obtain ⟨m, rfl⟩ := Int.eq_ofNat_of_zero_le h0
  have hm : m < 1048576 := by omega
  show IntKind.i64.wrap ((BitVec.ofInt 64 (m : Int) &&& ~~~(15 : BitVec 64)).toNat : Int) = _
  rw [mask15, BitVec.toNat_shiftLeft, BitVec.toNat_ushiftRight, BitVec.ofInt_natCast, BitVec.toNat_ofNat, Nat.mod_eq_of_lt (show m < 2 ^ 64 by omega), Nat.shiftRight_eq_div_pow, Nat.shiftLeft_eq]
  have : m / 2 ^ 4 * 2 ^ 4 % 2 ^ 64 = m / 16 * 16 := by omega
  rw [this]
  rw [IntWalk.i64_in _ (by omega)]
  omega
/-- A function of places, as one of numbers, row by row. -/
def lin (g : Int → Int → Int) (w : Int) (i : Nat) : Int := g ((i : Int) % w) ((i : Int) / w)
theorem lin_at {w h : Int} {i : Nat} (hw : 0 < w) (hi : (i : Int) < w * h) : 0 ≤ (i : Int) % w ∧ (i : Int) % w < w ∧ 0 ≤ (i : Int) / w ∧ (i : Int) / w < h ∧ (i : Int) / w * w + (i : Int) % w = i :=
  ⟨Int.emod_nonneg _ (by omega), Int.emod_lt_of_pos _ hw, Int.ediv_nonneg (by omega) (by omega), Int.ediv_lt_of_lt_mul hw (by rw [Int.mul_comm]; exact hi), Int.mul_comm .. ▸ Int.mul_ediv_add_emod (i : Int) w⟩
theorem lin_idx {g : Int → Int → Int} {w x y : Int} (b0 : 0 ≤ x) (b1 : x < w) (b2 : 0 ≤ y) : lin g w (y * w + x).toNat = g x y := by
  have h := Int.mul_nonneg b2 (show 0 ≤ w by omega)
  unfold lin
  rw [Int.toNat_of_nonneg (by omega), Int.mul_comm y w, Int.mul_add_emod_self_left, Int.mul_add_ediv_left _ _ (by omega), Int.emod_eq_of_lt b0 b1, Int.ediv_eq_zero_of_lt b0 b1, Int.add_zero]
theorem below_weaken {B : Nat} {w W : World} (h : Below w.heap.size w W) (hB : B ≤ w.heap.size) : Below B w W := h.mono hB
end Go.Proofs.Ytfnflgcalhiamaa
/- make([]T, 0, n): room for a row of the call's own. Rows of whole numbers. -/
set_option linter.unusedVariables false
set_option linter.unusedSimpArgs false
namespace Go.Proofs.Ytfnflgcalhiamaa
open Go.RowKit

theorem make_room {P : Program} {ops : Array Oper} {rest : List Oper} {o : Oper} {a : Act} {Q : Exit → Act → World → Prop} {W : World} (hgd : o.guard = none) (l c : Operand) (t : TypeId) (hop : o.op = Op.makeSlice t l c)
    (e : TypeId) (z : Value) (size bytes : Nat) (ht : P.underlying t = some (.slice e)) (hinfo : (P.info? e).map (fun i => (i.zero, i.size, i.bytes)) = some (some z, size, bytes))
    (n : Nat) (hl : a.eval l = .int .i64 0) (hc : a.eval c = .int .i64 (n : Int)) (b2 : bytes * n ≤ 281474976710656) (b3 : n ≤ 281474976710656)
    (h : ∀ v w1, w1.ownsRow W.heap.size e size v 0 [] → Below W.heap.size W w1 → wpList P ops Q rest (a.put o.dst v) w1) : wpList P ops Q (o :: rest) a W := by
  obtain ⟨i0, hi, hzz⟩ := Option.map_eq_some_iff.1 hinfo
  simp only [Prod.mk.injEq] at hzz
  obtain ⟨hz0, hz1, hz2⟩ := hzz
  refine wpList_plain hgd fun K hK => ?_
  obtain ⟨w', hr, hown, hg⟩ := run_make_own (P := P) W W.heap.size t e i0 z size ht hi hz0 hz1 .i64 .i64 n (by rw [hz2]; exact b2) (by simp only [maxLen]; omega) (Nat.le_refl _)
  unfold Oper.wp
  simp only [execOp, hop, hl, hc, Sem.run_bind, Sem.run_pure, hr, Result.andThen_ok]
  exact hK _ _ (h _ _ hown ((Below.refl _ _).grown hg (Nat.le_refl _) (fun k hk => by cases hk)))

/-- The first n values of a function, as cells. -/
def vals (g : Nat → Int) (n : Nat) : List Value := (List.range n).map fun i => .int .i64 (g i)
theorem vals_succ (g : Nat → Int) (n : Nat) : vals g (n + 1) = vals g n ++ [.int .i64 (g n)] := by simp [vals, List.range_succ]
theorem vals_length (g : Nat → Int) (n : Nat) : (vals g n).length = n := by simp [vals]
theorem vals_get (g : Nat → Int) {n i : Nat} (h : i < n) : (vals g n)[i]? = some (.int .i64 (g i)) := by simp [vals, h]
/-- A row that the call owns, of one-cell elements: what lies where. -/
theorem own_row {W : World} {base n : Nat} {e : TypeId} {v : Value} {xs : List Value} (h : W.ownsRow base e 1 v n xs) (hn : 0 < n) :
    ∃ k cap cs, v = .slice (some ⟨k, 0, none⟩) n cap ∧ n ≤ cap ∧ base ≤ k ∧ W.heap[k]? = some (.cells cs e (0, 0)) ∧ ∀ (i : Nat) (x : Value), xs[i]? = some x → cs[i]? = some x := by
  obtain ⟨h0, ⟨_, h2⟩ | ⟨k, cap, cs, h1, h2, h3, h4, h5, h6, h7⟩⟩ := h
  · omega
  · refine ⟨k, cap, cs, h1, h4, h2, h3, ?_⟩
    intro i x hx
    rw [← h7, List.getElem?_take] at hx
    split at hx
    · simpa using hx
    · cases hx
theorem info_int64 : (Try.prog.info? 2).map (fun i => (i.zero, i.size, i.bytes)) = some (some (.int .i64 0), 1, 8) := by kernel_rfl

theorem lin_at2 {w h : Int} {i : Nat} (hw : 0 < w) (hi : (i : Int) < w * h) : 0 ≤ (i : Int) % w ∧ (i : Int) % w < w ∧ 0 ≤ (i : Int) / w ∧ (i : Int) / w < h :=
  ⟨Int.emod_nonneg _ (by omega), Int.emod_lt_of_pos _ hw, Int.ediv_nonneg (by omega) (by omega), Int.ediv_lt_of_lt_mul hw (by rw [Int.mul_comm]; exact hi)⟩
/-- Values, as a row of whole numbers in new memory. -/
def RowOut (W : World) (n : Nat) (g : Nat → Int) (e : Ending) (W' : World) : Prop :=
  ∃ k, e = .returned (.slice (some ⟨k, 0, none⟩) n n) ∧ W.heap.size ≤ k ∧ Below W.heap.size W W' ∧ ∃ cs, W'.heap[k]? = some (.cells cs 2 (0, 0)) ∧ cs.size = n ∧ ∀ i, i < n → cs[i]? = some (.int .i64 (g i))
end Go.Proofs.Ytfnflgcalhiamaa
/- Rows of whole numbers, wherever they lie; is there a value that may not be? (paint's own) -/
set_option linter.unusedVariables false
set_option linter.unusedSimpArgs false
namespace Go.Proofs.Ytfnflgcalhiamaa
open Go.RowKit

/-- A row of whole numbers at an address. -/
def RowAt (W : World) (ad : Addr) (n : Nat) (g : Nat → Int) : Prop := ∀ i, i < n → W.cell? (ad.add i) = some (.int .i64 (g i))
theorem add_block (ad : Addr) (i : Nat) : (ad.add i).block = ad.block := by unfold Addr.add; split <;> rfl
theorem RowAt.below {W W2 : World} {ad : Addr} {n : Nat} {g : Nat → Int} (h : RowAt W ad n g) (hb : Below W.heap.size W W2) : RowAt W2 ad n g := fun i hi => below_cell hb (h i hi)
theorem RowAt.mod {S : Nat → Prop} {W W2 : World} {ad : Addr} {n : Nat} {g : Nat → Int} (h : RowAt W ad n g) (hb : Mod S W W2) (hn : ¬ S ad.block) : RowAt W2 ad n g := fun i hi => by
  have h1 := h i hi
  have h2 := World.block_lt_of_cell? W _ h1
  rw [World.cell?_of_block (w := W) (hb.block _ h2 (by rw [add_block]; exact hn))]
  exact h1
theorem RowAt.of_blk {W : World} {k n : Nat} {cs : Array Value} {t : TypeId} {fr : Nat × Nat} {g : Nat → Int} (h : W.heap[k]? = some (.cells cs t fr)) (hg : ∀ i, i < n → cs[i]? = some (.int .i64 (g i))) : RowAt W ⟨k, 0, none⟩ n g := fun i hi => by
  rw [add_plain]
  exact (blk_cell h i).trans (hg i hi)

/-- May a value be a cell's? -/
def mayB (v : Int) : Bool := decide (-2147483648 ≤ v) && decide (v ≤ 2147483647)
theorem mayB_iff {v : Int} : mayB v = true ↔ -2147483648 ≤ v ∧ v ≤ 2147483647 := by simp [mayB]
theorem paint_may_any (v : Int) (w : World) : Calls Try.prog 64 #[.int .i64 v] w fun e w' => e = .returned (.bool (mayB v)) ∧ w = w' := by
  by_cases h1 : -2147483648 ≤ v
  · by_cases h2 : v ≤ 2147483647
    · have e : mayB v = true := mayB_iff.2 ⟨h1, h2⟩
      rw [e]
      go_enter Try.func64, Try.ntmps64
      go_wp2
      go_ret
      exact ⟨rfl, rfl⟩
    · have e : mayB v = false := by simp [mayB, h2]
      rw [e]
      go_enter Try.func64, Try.ntmps64
      go_wp2
      go_ret
      exact ⟨rfl, rfl⟩
  · have e : mayB v = false := by simp [mayB, h1]
    rw [e]
    go_enter Try.func64, Try.ntmps64
    go_wp2
    go_ret
    exact ⟨rfl, rfl⟩
theorem paste1_any (v : Int) (w : World) : Calls Try.prog 63 #[.int .i64 v] w fun e w' => e = .returned (.bool (!mayB v)) ∧ w = w' := by
  go_enter Try.func63, Try.ntmps63
  go_wp2_with (go_at_call 64; refine (paint_may_any _ _).mono ?_; rintro e w' ⟨rfl, rfl⟩)
  go_ret
  exact ⟨rfl, rfl⟩

set_option maxHeartbeats 1000000 in
theorem indexf64_any (ad : Addr) (n cap : Nat) (g : Nat → Int) (w : World) (hn2 : n ≤ 1048576) (h2 : RowAt w ad n g) :
    Calls Try.prog 75 #[.slice (some ad) n cap, .func (.func 63) #[] #[]] w fun e w' => ∃ i : Int, e = .returned (.int .i64 i) ∧ (i < 0 ↔ ∀ j, j < n → mayB (g j) = true) ∧ w = w' := by
  go_enter Try.func75, Try.ntmps75
  have H2 := Lib.hid h2
  clear h2
  go_wp2_with fail
  go_loopg [8] n (fun q v8 wr => ∃ m : Nat, Hid (m + q = n) ∧ v8 = .int .i64 (m : Int) ∧ Hid (∀ j, j < m → mayB (g j) = true) ∧ w = wr)
  case atStart => exact ⟨0, Nat.zero_add _, rfl, fun j hj => by omega, rfl⟩
  case round =>
    obtain ⟨m, hm, rfl, hg, rfl⟩ := hrel
    cases gk with
    | zero =>
      have ht : decide (m < n) = false := decide_eq_false (by have := hm.out; omega)
      go_wp2_with fail
      go_ret
      have e : m = n := hm.out
      subst e
      exact ⟨-1, rfl, ⟨fun _ => hg.out, fun _ => by omega⟩, rfl⟩
    | succ q =>
      have hlt : m < n := by have := hm.out; omega
      have ht : decide (m < n) = true := decide_eq_true (by omega)
      have hc := H2.out m hlt
      have hmn : (m : Int) < (n : Int) := by omega
      by_cases hs : mayB (g m) = true
      · have Hs := Lib.hid hs
        go_wp2_with (go_at_call 63; refine (paste1_any (g m) _).mono ?_; rintro e w' ⟨rfl, rfl⟩)
        go_roundg q
        case measure => omega
        case rel =>
          refine ⟨m + 1, (by have := hm.out; exact (show m + 1 + q = n by omega)), by first | rfl | exact congrArg (Value.int .i64) (by omega), ?_, rfl⟩
          intro j hj
          rcases Nat.lt_or_ge j m with h | h
          · exact hg.out j h
          · have : j = m := by omega
            subst this
            exact Hs.out
      · have hs' : mayB (g m) = false := by simpa using hs
        have Hs := Lib.hid hs'
        clear hs
        go_wp2_with (go_at_call 63; refine (paste1_any (g m) _).mono ?_; rintro e w' ⟨rfl, rfl⟩)
        go_ret
        refine ⟨_, rfl, ⟨fun h => absurd h (by omega), fun h => ?_⟩, rfl⟩
        have := h m hlt
        rw [Hs.out] at this
        cases this

theorem contains64_any (ad : Addr) (n cap : Nat) (g : Nat → Int) (w : World) (hn2 : n ≤ 1048576) (h2 : RowAt w ad n g) :
    Calls Try.prog 62 #[.slice (some ad) n cap, .func (.func 63) #[] #[]] w fun e w' => ∃ r : Bool, e = .returned (.bool r) ∧ (r = false ↔ ∀ j, j < n → mayB (g j) = true) ∧ w = w' := by
  go_enter Try.func62, Try.ntmps62
  have H2 := Lib.hid h2
  clear h2
  go_wp2_with fail
  refine (indexf64_any ad n cap g _ hn2 H2.out).mono ?_
  rintro e w' ⟨i, rfl, hi, rfl⟩
  have Hi := Lib.hid hi
  clear hi
  go_wp2_with fail
  go_ret
  refine ⟨_, rfl, ?_, rfl⟩
  rw [← Hi.out]
  simp
end Go.Proofs.Ytfnflgcalhiamaa
/- hachurelaw09.Land: may these be a land? -/
set_option linter.unusedVariables false
set_option linter.unusedSimpArgs false
namespace Go.Proofs.Ytfnflgcalhiamaa
open Go.RowKit

theorem agg_Model : AggTy Try.prog 25 3 := ⟨⟨_, Try.underlying25⟩, by kernel_rfl⟩
theorem ref04_May_any (v : Int) (w : World) : Calls Try.prog 18 #[.int .i64 v] w fun e w' => e = .returned (.bool (mayB v)) ∧ w = w' := by
  by_cases h1 : -2147483648 ≤ v
  · by_cases h2 : v ≤ 2147483647
    · have e : mayB v = true := mayB_iff.2 ⟨h1, h2⟩
      rw [e]
      go_enter Try.func18, Try.ntmps18
      go_wp2
      go_ret
      exact ⟨rfl, rfl⟩
    · have e : mayB v = false := by simp [mayB, h2]
      rw [e]
      go_enter Try.func18, Try.ntmps18
      go_wp2
      go_ret
      exact ⟨rfl, rfl⟩
  · have e : mayB v = false := by simp [mayB, h1]
    rw [e]
    go_enter Try.func18, Try.ntmps18
    go_wp2
    go_ret
    exact ⟨rfl, rfl⟩

/-- A slice of whole numbers, as an argument. -/
def ArgAt (W : World) (v : Value) (n : Nat) (u : Nat → Int) : Prop := ∃ o cap, v = .slice o n cap ∧ n ≤ 9223372036854775807 ∧ (0 < n → ∃ ad, o = some ad ∧ RowAt W ad n u)
theorem ArgAt.below {W W' : World} {v : Value} {n : Nat} {u : Nat → Int} (H : ArgAt W v n u) (hb : Below W.heap.size W W') : ArgAt W' v n u := by
  obtain ⟨o, cap, rfl, h1, h2⟩ := H
  exact ⟨o, cap, rfl, h1, fun h => by obtain ⟨ad, rfl, hr⟩ := h2 h; exact ⟨ad, rfl, hr.below hb⟩⟩
/-- What a land is. -/
structure LandOk (w h most : Int) (n : Nat) (u : Nat → Int) : Prop where
  w1 : 1 ≤ w
  h1 : 1 ≤ h
  w2 : w ≤ 1024
  h2 : h ≤ 1024
  most : w * h ≤ most
  len : (n : Int) = w * h
  may : ∀ i, i < n → mayB (u i) = true
/-- No land. -/
def NoLand (W : World) (e : Ending) (W' : World) : Prop := e = .returned (.tuple #[.agg #[.int .i64 0, .int .i64 0, .slice none 0 0], .bool false]) ∧ Below W.heap.size W W'

set_option maxHeartbeats 2000000 in
set_option maxRecDepth 100000 in
theorem land_none (w h most : Int) (v : Value) (n : Nat) (u : Nat → Int) (W : World) (hv : ArgAt W v n u) (hn : ¬ (1 ≤ w ∧ 1 ≤ h ∧ w ≤ 1024 ∧ h ≤ 1024 ∧ w * h ≤ most ∧ (n : Int) = w * h)) :
    Calls Try.prog 6 #[.int .i64 w, .int .i64 h, v, .int .i64 most] W (NoLand W) := by
  obtain ⟨o, cap, rfl, hn63, _⟩ := hv
  by_cases c1 : w < 1
  · clear hn
    go_enter Try.func6, Try.ntmps6
    go_wp2_with fail
    refine bodyPost_ret (res_ct rfl rfl (blk_new _ _) agg_Model rfl) rfl ?_
    exact ⟨rfl, below_alloc1 _ _⟩
  by_cases c2 : h < 1
  · clear hn
    go_enter Try.func6, Try.ntmps6
    go_wp2_with fail
    refine bodyPost_ret (res_ct rfl rfl (blk_new _ _) agg_Model rfl) rfl ?_
    exact ⟨rfl, below_alloc1 _ _⟩
  by_cases c3 : 1024 < w
  · clear hn
    go_enter Try.func6, Try.ntmps6
    go_wp2_with fail
    refine bodyPost_ret (res_ct rfl rfl (blk_new _ _) agg_Model rfl) rfl ?_
    exact ⟨rfl, below_alloc1 _ _⟩
  by_cases c4 : 1024 < h
  · clear hn
    go_enter Try.func6, Try.ntmps6
    go_wp2_with fail
    refine bodyPost_ret (res_ct rfl rfl (blk_new _ _) agg_Model rfl) rfl ?_
    exact ⟨rfl, below_alloc1 _ _⟩
  have hm := mul_bd (a := w) (b := h) (A := 1024) (B := 1024) (by omega) (by omega) (by omega) (by omega)
  obtain ⟨hm0, hm1⟩ := hm
  obtain ⟨m, hmm⟩ : ∃ m, w * h = m := ⟨_, rfl⟩
  have wm : wrap64 (w * h) = m := by rw [wrap64_id (by omega) (by omega)]; exact hmm
  rw [hmm] at hn hm0 hm1
  clear hmm
  by_cases c6 : (n : Int) = m
  · have c5 : ¬ m ≤ most := fun e => hn ⟨by omega, by omega, by omega, by omega, e, c6⟩
    clear hn
    have ht : decide (most < m) = true := decide_eq_true (by omega)
    go_enter Try.func6, Try.ntmps6
    go_wp2_with fail
    refine bodyPost_ret (res_ct rfl rfl (blk_new _ _) agg_Model rfl) rfl ?_
    exact ⟨rfl, below_alloc1 _ _⟩
  · clear hn
    have hb : ((n : Int) != m) = true := by simp [c6]
    by_cases c5 : most < m
    · skip
      go_enter Try.func6, Try.ntmps6
      go_wp2_with fail
      refine bodyPost_ret (res_ct rfl rfl (blk_new _ _) agg_Model rfl) rfl ?_
      exact ⟨rfl, below_alloc1 _ _⟩
    · skip
      go_enter Try.func6, Try.ntmps6
      go_wp2_with fail
      refine bodyPost_ret (res_ct rfl rfl (blk_new _ _) agg_Model rfl) rfl ?_
      exact ⟨rfl, below_alloc1 _ _⟩
end Go.Proofs.Ytfnflgcalhiamaa
/- Opening and shutting of a row's arguments: slices of numbers, cells, rectangles. -/
namespace Go.Proofs.Ytfnflgcalhiamaa
open Go.ChangeShapes Go.WideShapes Go.ChangeAt Go.RowKit Go.Joins
set_option linter.unusedVariables false

set_option maxRecDepth 100000 in
theorem own_knob : ownKnob Try.prog.godebug = none := by kernel_rfl
theorem laid_out : laidOutB Try.prog = true := by kernel_rfl
theorem cells_Cell : Try.prog.cellsOf 53 = 2 := by kernel_rfl
theorem cells_Rect : Try.prog.cellsOf 71 = 4 := by kernel_rfl
/-- A slice of numbers that came in. -/
def IsRow (w : World) (a : Option Addr) (len cap : Nat) (zs : List Int) : Prop :=
  (a = none ∧ len = 0 ∧ cap = 0 ∧ zs = []) ∨
  ∃ x, a = some x ∧ len ≤ cap ∧ cap ≤ maxLen ∧ zs.length = cap ∧ (∀ i, i < zs.length → w.cell? (x.add i) = some (.int .i64 (zs.getD i 0))) ∧ ∀ n ∈ zs, (Lit.int .i64 n).wf = true
theorem IsRow.arg {w : World} {a : Option Addr} {len cap : Nat} {zs : List Int} (h : IsRow w a len cap zs) : ArgAt w (.slice a len cap) len (fun i => zs.getD i 0) := by
  rcases h with ⟨rfl, rfl, rfl, rfl⟩ | ⟨x, rfl, h1, h2, h3, h4, _⟩
  · exact ⟨none, 0, rfl, by omega, fun h => by omega⟩
  · refine ⟨some x, cap, rfl, by simp only [maxLen] at h2; omega, fun _ => ⟨x, rfl, fun i hi => h4 i (by omega)⟩⟩
section
variable {H : Type} {enc : TypeId × Value → H} {W : World} {base : Nat} {v : Value} {d : DataW H} {p : List MemPlace}
theorem trod_below {t : TypeId} (h : DataW.Trod enc Try.prog W 0 (fun _ => true) true t v d p) : ∀ x ∈ p, x.block < W.heap.size := by
  obtain ⟨m, hm⟩ := h
  exact DataW.trod_lt m _ _ _ hm
set_option maxRecDepth 100000 in
theorem open_row (hv : Value.okWide Try.prog W .any base 22 v) (h : DataW.Trod enc Try.prog W 0 (fun _ => true) true 22 v d p) : ∃ a len cap zs, v = .slice a len cap ∧ IsRow W a len cap zs := by
  obtain ⟨a2, len2, cap2, rfl⟩ := okWide_slice Try.underlying22 hv
  obtain ⟨fuel, hf⟩ := h
  rcases open_ints Try.underlying22 Try.underlying2 (by kernel_rfl) hf with ⟨hcs, _⟩ | ⟨x, l, c, zs, hcs, _, hl, hm, hz, _, hcell, hwz⟩
  · simp [Value.cells] at hcs
    obtain ⟨rfl, rfl, rfl⟩ := hcs
    exact ⟨_, _, _, [], rfl, .inl ⟨rfl, rfl, rfl, rfl⟩⟩
  · simp [Value.cells] at hcs
    obtain ⟨rfl, rfl, rfl⟩ := hcs
    exact ⟨_, _, _, zs, rfl, .inr ⟨_, rfl, hl, hm, by simpa using hz, hcell, hwz⟩⟩
set_option maxRecDepth 100000 in
theorem open_cell (hv : Value.okWide Try.prog W .any base 53 v) (h : DataW.Trod enc Try.prog W 0 (fun _ => true) true 53 v d p) : ∃ x y, v = .agg #[.int .i64 x, .int .i64 y] := by
  obtain ⟨c0, c1, y0, y1, m, rfl, rfl, rfl, hy0, hy1⟩ := open_agg2 Try.underlying53 (by kernel_rfl) cells_Cell hv h
  obtain ⟨x, e0, _, _⟩ := DataW.trod_int Try.underlying2 hy0
  obtain ⟨y, e1, _, _⟩ := DataW.trod_int Try.underlying2 hy1
  simp at e0 e1
  subst e0 e1
  exact ⟨x, y, rfl⟩
set_option maxRecDepth 100000 in
theorem open_rect (hv : Value.okWide Try.prog W .any base 71 v) (h : DataW.Trod enc Try.prog W 0 (fun _ => true) true 71 v d p) : ∃ x0 y0 x1 y1, v = .agg #[.int .i64 x0, .int .i64 y0, .int .i64 x1, .int .i64 y1] := by
  obtain ⟨c0, c1, c2, c3, y0, y1, y2, y3, m, rfl, rfl, rfl, hy0, hy1, hy2, hy3⟩ := open_agg4 Try.underlying71 (by kernel_rfl) cells_Rect hv h
  obtain ⟨x0, e0, _, _⟩ := DataW.trod_int Try.underlying2 hy0
  obtain ⟨x1, e1, _, _⟩ := DataW.trod_int Try.underlying2 hy1
  obtain ⟨x2, e2, _, _⟩ := DataW.trod_int Try.underlying2 hy2
  obtain ⟨x3, e3, _, _⟩ := DataW.trod_int Try.underlying2 hy3
  simp at e0 e1 e2 e3
  subst e0 e1 e2 e3
  exact ⟨x0, x1, x2, x3, rfl⟩
end
end Go.Proofs.Ytfnflgcalhiamaa

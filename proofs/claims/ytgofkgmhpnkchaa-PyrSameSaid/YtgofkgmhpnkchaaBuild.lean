/- pyr.Build. -/
import Derived.Test.YtgofkgmhpnkchaaRepair
import Derived.Test.YtgofkgmhpnkchaaGridNew
import Derived.Deep.RegionLaw
set_option linter.unusedVariables false
set_option linter.unusedSimpArgs false
namespace Go.Proofs.Ytgofkgmhpnkchaa
open Go.RowKit

/-- The levels so far, as cells. -/
def plist (w h : Int) (s : Nat → Nat) (j : Nat) : List Value := (List.range j).flatMap fun k => [.int .i64 (lw w k), .int .i64 (lw h k), .slice (some ⟨s k, 0, none⟩) (area w h k) (area w h k)]
theorem plist_succ (w h : Int) (s : Nat → Nat) (j b : Nat) : plist w h (fun i => if i = j then b else s i) (j + 1) = plist w h s j ++ [.int .i64 (lw w j), .int .i64 (lw h j), .slice (some ⟨b, 0, none⟩) (area w h j) (area w h j)] := by
  simp only [plist, List.range_succ, List.flatMap_append, List.flatMap_cons, List.flatMap_nil, List.append_nil, if_pos]
  congr 1
  rw [List.flatMap_def, List.flatMap_def]
  congr 1
  refine List.map_congr_left (fun i hi => ?_)
  rw [if_neg (by have := List.mem_range.1 hi; omega)]
theorem plist_length (w h : Int) (s : Nat → Nat) (n : Nat) : (plist w h s n).length = n * 3 := by
  induction n with
  | zero => rfl
  | succ n ih =>
    have hs : plist w h s (n + 1) = plist w h s n ++ [.int .i64 (lw w n), .int .i64 (lw h n), .slice (some ⟨s n, 0, none⟩) (area w h n) (area w h n)] := by simp [plist, List.range_succ]
    rw [hs, List.length_append, ih]
    simp
    omega
theorem plist_get (w h : Int) (s : Nat → Nat) : ∀ (n q : Nat), q < n → (plist w h s n)[q * 3]? = some (.int .i64 (lw w q)) ∧ (plist w h s n)[q * 3 + 1]? = some (.int .i64 (lw h q)) ∧ (plist w h s n)[q * 3 + 2]? = some (.slice (some ⟨s q, 0, none⟩) (area w h q) (area w h q))
  | n + 1, q, hq => by
    have hl := plist_length w h s n
    have hs : plist w h s (n + 1) = plist w h s n ++ [.int .i64 (lw w n), .int .i64 (lw h n), .slice (some ⟨s n, 0, none⟩) (area w h n) (area w h n)] := by simp [plist, List.range_succ]
    rw [hs]
    by_cases e : q = n
    · subst e
      rw [List.getElem?_append_right (by omega), List.getElem?_append_right (by omega), List.getElem?_append_right (by omega), hl]
      simp
    · rw [List.getElem?_append_left (by omega), List.getElem?_append_left (by omega), List.getElem?_append_left (by omega)]
      exact plist_get w h s n q (by omega)
/-- The first j levels of a new pyramid. -/
def BuildStep (w3 : World) (P : Nat) (w h : Int) (j : Nat) (wr : World) : Prop :=
  ∃ (vj : Value) (s : Nat → Nat), wr.heap[P]? = some (.cells #[vj] 90 (0, 0)) ∧ Hid (wr.ownsRow w3.heap.size 97 3 vj j (plist w h s j)) ∧
    Hid ((∀ i, i < j → CellsAt wr (s i) (lw w i) (lw h i) (Rng (fun _ _ => 0) w h i)) ∧ (∀ i, i < j → w3.heap.size ≤ s i ∧ vj.ownBlock ≠ some (s i)) ∧ ∀ i i2, i < j → i2 < j → i ≠ i2 → s i ≠ s i2) ∧ Mod (fun k => k = P) w3 wr
/-- A new pyramid. -/
def PyrMade (w h : Int) (f : Int → Int → Int) (W : World) (e : Ending) (W' : World) : Prop :=
  ∃ p F, e = .returned (.tuple #[.pointer (some ⟨p, 0, none⟩), .int .i64 0]) ∧ Below W.heap.size W W' ∧ (∀ k, F k → W.heap.size ≤ k) ∧ PyrAt W' p F w h f
theorem info_level : (Try.prog.info? 97).map (fun i => (i.zero, i.size, i.bytes)) = some (some (.agg #[.int .i64 0, .int .i64 0, .slice none 0 0]), 3, 40) := by kernel_rfl
theorem info_Range : (Try.prog.info? 39).map (fun i => (i.zero, i.size, i.bytes)) = some (some (.agg #[.int .i64 0, .int .i64 0]), 2, 16) := by kernel_rfl

/-- One element is appended to a row of the call's own, as one step of a region that draws its order. -/
theorem wp_append_own_new {P : Program} {o : Oper} {a : Act} {w : World} {K : Act → World → Prop} {Q : Exit → Act → World → Prop} (base : Nat) (s x : Operand) (t e : TypeId) (z : Value) (size bytes : Nat)
    (ho : o.op = .call { callee := .builtin .append, args := #[s, x], argTypes := #[t, t] })
    (ht : P.underlying t = some (.slice e)) (hinfo : (P.info? e).map (fun i => (i.zero, i.size, i.bytes)) = some (some z, size, bytes)) (hz : z.cells.size = size) (hsz : 0 < size)
    (v : Value) (n : Nat) (xs : List Value) (ys : List Value) (hs : a.eval s = v) (B : Nat) (hx : a.eval x = .slice (some ⟨B, 0, none⟩) 1 1) (hblk : w.heap[B]? = some (.cells ys.toArray e (0, 0))) (hys : ys.length = size) (h1 : ∀ u ∈ ys, u.oneCell' = true)
    (HO : w.ownsRow base e size v n xs) (hbase : base ≤ w.heap.size) (hl : (n + 1) * bytes ≤ 140737488355328) (hn : n + 1 ≤ 9223372036854775807)
    (h : ∀ k8 cap8 w1, Hid (w1.ownsRow base e size (.slice (some ⟨k8, 0, none⟩) (n + 1) cap8) (n + 1) (xs ++ ys) ∧ Mod (fun k => v.ownBlock = some k) w w1 ∧ (∀ k, k = k8 → v.ownBlock = some k ∨ w.heap.size ≤ k)) → K (a.put o.dst (.slice (some ⟨k8, 0, none⟩) (n + 1) cap8)) w1) : o.wp P a w K Q := by
  obtain ⟨i0, hi, hzz⟩ := Option.map_eq_some_iff.1 hinfo
  simp only [Prod.mk.injEq] at hzz
  obtain ⟨hz0, hz1, hz2⟩ := hzz
  obtain ⟨v', w', hr, h2, h3, h4, h5⟩ := run_append_own_at (P := P) w base t o.type e i0 z size bytes ht hi hz0 hz1 hz2 hz hsz v n xs HO ⟨B, 0, none⟩ 1 1 ys (by simpa using hys) (World.news_of_block (fr := (0, 0)) hblk) h1 (by simp only [maxLen]; omega) hl hbase
  obtain ⟨k8, cap8, cs8, rfl, hc1, hc2, hc3, hc4⟩ := own_rowS h2 (by omega)
  have hK := h k8 cap8 w' ⟨h2, ⟨h3.os, h3.tape, h3.output, h3.size, fun k hk hn => h3.block k hk (fun e => hn e.symm)⟩, fun k hk => ?_⟩
  · unfold Oper.wp execOp
    simp only [ho, resolve, invoke, builtin, Sem.run_bind, Sem.run_pure, Result.andThen_ok, List.map_toArray, List.map_cons, List.map_nil, hs, hx, hr]
    exact hK
  · subst hk
    rcases h5 with h5 | h5
    · exact .inl h5.symm
    · have := Option.some.inj h5
      exact .inr (by simp at this; omega)
theorem step_append_own_new {P : Program} {ops : Array Oper} {E : Prop} {o : Oper} {a : Act} {w : World} {K : Act → World → Prop} {Q : Exit → Act → World → Prop} (base : Nat) (hgd : o.guard = none) (s x : Operand) (t e : TypeId) (z : Value) (size bytes : Nat)
    (ho : o.op = .call { callee := .builtin .append, args := #[s, x], argTypes := #[t, t] })
    (ht : P.underlying t = some (.slice e)) (hinfo : (P.info? e).map (fun i => (i.zero, i.size, i.bytes)) = some (some z, size, bytes)) (hz : z.cells.size = size) (hsz : 0 < size)
    (v : Value) (n : Nat) (xs : List Value) (ys : List Value) (hs : a.eval s = v) (B : Nat) (hx : a.eval x = .slice (some ⟨B, 0, none⟩) 1 1) (hblk : w.heap[B]? = some (.cells ys.toArray e (0, 0))) (hys : ys.length = size) (h1 : ∀ u ∈ ys, u.oneCell' = true)
    (HO : w.ownsRow base e size v n xs) (hbase : base ≤ w.heap.size) (hl : (n + 1) * bytes ≤ 140737488355328) (hn : n + 1 ≤ 9223372036854775807)
    (h : ∀ k8 cap8 w1, Hid (w1.ownsRow base e size (.slice (some ⟨k8, 0, none⟩) (n + 1) cap8) (n + 1) (xs ++ ys) ∧ Mod (fun k => v.ownBlock = some k) w w1 ∧ (∀ k, k = k8 → v.ownBlock = some k ∨ w.heap.size ≤ k)) → K (a.put o.dst (.slice (some ⟨k8, 0, none⟩) (n + 1) cap8)) w1) :
    if Region.wanted o (yielded ops a.tmps) = true then o.wp P a w K Q else E := by
  have hw : Region.wanted o (yielded ops a.tmps) = true := by simp [Region.wanted, hgd]
  rw [if_pos hw]
  exact wp_append_own_new base s x t e z size bytes ho ht hinfo hz hsz v n xs ys hs B hx hblk hys h1 HO hbase hl hn h
theorem make_range (n : Nat) (hn : n ≤ 1048576) : ∃ Z : Array Value, (∀ i, i < n → Z[i * 2]? = some (.int .i64 0) ∧ Z[i * 2 + 1]? = some (.int .i64 0)) ∧
    ∀ w, (Instr.makeSlice 95 (.int .i64 (n : Int)) (.int .i64 (n : Int))).run Try.prog w = .ok (.slice (some ⟨w.heap.size, 0, none⟩) n n) (w.alloc (.cells Z 39)) := by
  obtain ⟨i0, hi, hzz⟩ := Option.map_eq_some_iff.1 info_Range
  simp only [Prod.mk.injEq] at hzz
  obtain ⟨hz0, hz1, hz2⟩ := hzz
  refine ⟨madeCells #[.int .i64 0, .int .i64 0] (n * 2), fun i hi => ?_, fun w => ?_⟩
  · constructor
    · simp [madeCells, show i * 2 < n * 2 by omega]
    · simp [madeCells, show i * 2 + 1 < n * 2 by omega, show (i * 2 + 1) % 2 = 1 by omega]
  · have hr := run_make (P := Try.prog) w 95 39 i0 _ Try.underlying95 hi hz0 .i64 .i64 n n (by omega) (Int.le_refl _) (by rw [hz2]; omega) (by omega)
    rw [hz1, Int.toNat_natCast] at hr
    exact hr

set_option maxHeartbeats 2000000 in
set_option maxRecDepth 100000 in
theorem build_ok (g : Nat) (Fg : Nat → Prop) (w h : Int) (f : Int → Int → Int) (W : World) (HG : GridAt W g Fg w h f) :
    Calls Try.prog 14 #[.pointer (some ⟨g, 0, none⟩)] W (PyrMade w h f W) := by
  obtain ⟨d1, d2, d3, d4⟩ := HG.dims
  have hL := levs_bd d1 d2 d3 d4
  obtain ⟨L, hLe⟩ : ∃ L, levs w h = L := ⟨_, rfl⟩
  have HL := Lib.hid hLe
  rw [hLe] at hL
  clear hLe
  go_enter Try.func14, Try.ntmps14
  go_wp2_with fail
  have nP := blk_new W (.cells #[.slice none 0 0] 90)
  have hB := below_alloc1 W (.cells #[.slice none 0 0] 90)
  have HG1 := HG.below hB
  refine (grid_Size_ok g Fg w h f _ HG1).mono ?_
  rintro e w2 ⟨rfl, hb⟩
  replace nP := below_blk hb nP
  replace HG1 := HG1.below hb
  replace hB := below_next hB hb
  clear hb
  go_wp2_with fail
  refine (levels_ok w h w2 d1 d2 d3 d4).mono ?_
  rw [HL.out]
  rintro e w3 ⟨rfl, hb⟩
  replace nP := below_blk hb nP
  replace HG1 := HG1.below hb
  replace hB := below_next hB hb
  obtain ⟨P, hP⟩ : ∃ P, W.heap.size = P := ⟨_, rfl⟩
  have hPW : P < w3.heap.size := by rw [← hP]; exact blk_lt nP
  rw [hP] at nP ⊢
  have HP := Lib.hid hP
  clear hb hP
  go_wp2_with fail
  go_loopg [29] L (fun q v29 wr => ∃ j : Nat, Hid (j + q = L) ∧ v29 = .int .i64 (j : Int) ∧ BuildStep w3 P w h j wr)
  case atStart => exact ⟨0, Nat.zero_add _, rfl, _, fun _ => 0, nP, World.ownsRow_nil w3 w3.heap.size 97 3, ⟨fun i hi => by omega, fun i hi => by omega, fun i _ hi => by omega⟩, Mod.refl _ _⟩
  case round =>
    obtain ⟨j, hj, rfl, vj, s, nr, hown, hsl, hM⟩ := hrel
    cases gk with
    | zero =>
      have ht : decide (j < L) = false := decide_eq_false (by have := hj.out; omega)
      have ht2 : decide ((j : Int) < (L : Int)) = false := decide_eq_false (by have := hj.out; omega)
      obtain ⟨k9, cap9, cs9, hv9, hc1, hc2, hc3, hc4⟩ := own_rowS hown.out (by have := hj.out; omega)
      subst hv9
      have ej : j = L := hj.out
      obtain ⟨s1, s2, s3⟩ := hsl.out
      rw [ej] at s1 s2 s3 hc1 nr hc4
      rw [← HL.out] at s1 s2 s3 hc1 nr hc4
      have hPy : PyrRaw wr P (fun k => k = P ∨ k = k9 ∨ ∃ i, i < levs w h ∧ k = s i) w h (fun k => Rng (fun _ _ => 0) w h k) k9 cap9 cs9 s := by
        refine ⟨d1, d2, d3, d4, .inl rfl, .inr (.inl rfl), fun k hk => .inr (.inr ⟨k, hk, rfl⟩), ?_, by omega, fun k hk => ⟨by have := (s2 k hk).1; omega, fun e => (s2 k hk).2 (by rw [e]; rfl)⟩, s3, hc1, nr, hc3, fun k hk => ?_, s1⟩
        · rintro k (rfl | rfl | ⟨i, hi, rfl⟩)
          · exact blk_lt nr
          · exact blk_lt hc3
          · obtain ⟨cs, hc, _⟩ := s1 i hi
            exact blk_lt hc
        · have h8 := plist_get w h s (levs w h) k hk
          exact ⟨hc4 _ _ h8.1, hc4 _ _ h8.2.1, hc4 _ _ h8.2.2⟩
      have hPy2 : PyrAt wr P (fun k => k = P ∨ k = k9 ∨ ∃ i, i < levs w h ∧ k = s i) w h (fun _ _ => 0) := ⟨k9, cap9, cs9, s, hPy⟩
      have hFP : ∀ k, (k = P ∨ k = k9 ∨ ∃ i, i < levs w h ∧ k = s i) → P ≤ k := by
        rintro k (rfl | rfl | ⟨i, hi, rfl⟩)
        · omega
        · omega
        · have := (s2 i hi).1
          omega
      have HFP := Lib.hid hFP
      have HGr := HG1.mod hM (fun k hk e => by have := HG.lt k hk; have := HP.out; omega)
      have hBr : Below W.heap.size W wr := hB.trans (hM.below hB.size (fun k hk => by have := HP.out; omega))
      clear s1 s2 s3 hc1 hc2 hc3 hc4 hPy hFP hown hsl nr ej
      go_wp2_with fail
      refine (grid_All_ok g Fg w h f wr HGr).mono ?_
      rintro e w5 ⟨rfl, hb⟩
      have HG5 := HGr.below hb
      have hP5 := hPy2.below hb
      have hB5 := below_next hBr hb
      clear hb hPy2 HGr hBr
      go_wp2_with fail
      refine (repair_ok P _ g Fg w h 0 0 (w - 1) (h - 1) f _ w5 hP5 HG5 (by omega) (by omega) (by omega) (by omega) (by omega) (by omega)).mono ?_
      rintro e w6 ⟨rfl, hM6, hP6⟩
      go_wp2_with fail
      go_ret2
      refine ⟨P, _, rfl, hB5.trans (hM6.below hB5.size (fun k hk => by have := HFP.out k hk; have := HP.out; omega)), fun k hk => by have := HFP.out k hk; have := HP.out; omega, hP6.congr (fun x y c1 c2 c3 c4 => (mix_in (by unfold inR; omega)).symm)⟩
    | succ q =>
      have hlt : j < L := by have := hj.out; omega
      have ht : decide (j < L) = true := decide_eq_true hlt
      have ht2 : decide ((j : Int) < (L : Int)) = true := decide_eq_true (by omega)
      go_wp2_with fail
      refine (tier_size_ok w h j _ d1 d2 d3 d4 (by have := HL.out; omega)).mono ?_
      rintro e w4 ⟨rfl, hb⟩
      have n4 := below_blk hb nr
      have hown4 := own_below hown.out hb
      have bw := lw_bd d1 j
      have bh := lw_bd d3 j
      have hmm := mul_bd (a := lw w j) (b := lw h j) (A := 1024) (B := 1024) (by omega) (by omega) (by omega) (by omega)
      have u1 : wrap64 (lw w j * lw h j) = (area w h j : Int) := by rw [wrap64_id (by omega) (by omega)]; unfold area; omega
      have u2 : IntKind.i64.wrap (lw w j * lw h j) = (area w h j : Int) := by rw [IntWalk.i64_in _ (by omega)]; unfold area; omega
      have k_0 := cells_w n4 0 rfl
      have z_0 := blk_frozen n4 0
      go_wp2_with fail
      obtain ⟨Z, hZ, hmk⟩ := make_range (area w h j) (by unfold area; omega)
      have HZ := Lib.hid hZ
      have HN4 := Lib.hid n4
      have HOW := Lib.hid hown4
      have cP := cells_w n4 0 rfl
      have cP1 := fun o => cell_alloc (o := o) cP
      have cP2 := fun o o2 => cell_alloc (o := o2) (cP1 o)
      have hMb := hM.then_below hb
      have hsz4 := hMb.size
      have HMb := Lib.hid hMb
      have HSL := Lib.hid hsl
      have HB4 := Lib.hid hb
      have hoP : ∀ k, vj.ownBlock = some k → k ≠ P := fun k hk e => by have := (hown4.lt k hk).1; omega
      have HOP := Lib.hid hoP
      clear hZ n4 hown4 hMb hsl hb hoP k_0 z_0 hM nr hown
      go_region_law
        (first | (refine step_append_own_new w3.heap.size rfl (.tmp 44) (.tmp 52) 88 97 _ 3 40 rfl Try.underlying88 info_level rfl (by omega) _ j _ [.int .i64 (lw w j), .int .i64 (lw h j), .slice (some ⟨w4.heap.size, 0, none⟩) (area w h j) (area w h j)] rfl _ rfl (by first | exact blk_new_at (by simp) | exact blk_drew (blk_new_at (by simp))) rfl (by intro u hu; simp at hu; rcases hu with rfl | rfl | rfl <;> rfl) (own_below HOW.out (by repeat (first | exact Below.refl _ _ | refine below_drew1 ?_ | refine below_alloc ?_ _))) (by simp; omega) (by omega) (by omega) ?_; rintro k8 cap8 w8 h8; have HN8 : Hid (w8.heap[P]? = some (.cells #[vj] 90 (0, 0))) := h8.out.2.1.blk (by repeat (first | exact HN4.out | refine blk_drew ?_ | refine below_blk (below_alloc1 _ _) ?_)) (fun e => HOP.out P e rfl); have cP8 := cells_w HN8.out 0 rfl; have zP8 := blk_frozen HN8.out 0; have HO8 : Hid (w8.ownsRow w3.heap.size 97 3 (.slice (some ⟨k8, 0, none⟩) (j + 1) cap8) (j + 1) (plist w h s j ++ [.int .i64 (lw w j), .int .i64 (lw h j), .slice (some ⟨w4.heap.size, 0, none⟩) (area w h j) (area w h j)])) := h8.out.1; have HM8 : Hid (Mod (fun k => vj.ownBlock = some k) w4 w8) := (Mod.of_below (by repeat (first | exact Below.refl _ _ | refine below_drew1 ?_ | refine below_alloc ?_ _))).trans h8.out.2.1 (fun _ x => .inl x); have HK8 : Hid (vj.ownBlock = some k8 ∨ w4.heap.size + 2 ≤ k8) := (h8.out.2.2 k8 rfl).imp id (fun hx => by simpa using hx); have HZ8 : Hid (w8.heap[w4.heap.size]? = some (.cells Z 39 (0, 0))) := h8.out.2.1.blk (by repeat (first | exact blk_new _ _ | refine blk_drew ?_ | refine below_blk (below_alloc1 _ _) ?_)) (fun e => by have := (HOW.out.lt _ e).2; omega); clear h8))
      all_goals
        go_wp2_with fail
        go_roundg q
        case measure => omega
        case rel =>
          obtain ⟨s1, s2, s3⟩ := HSL.out
          have hset : Mod (fun k => k = P) w8 (w8.setCell ⟨P, 0, none⟩ (.slice (some ⟨k8, 0, none⟩) (j + 1) cap8)) := (Mod.refl (fun k => k = P) w8).setCell (p := ⟨P, 0, none⟩) (.inl rfl) _
          have hMf : Mod (fun k => k = P) w3 (w8.setCell ⟨P, 0, none⟩ (.slice (some ⟨k8, 0, none⟩) (j + 1) cap8)) := (HMb.out.trans HM8.out (fun k hk => .inr (HOW.out.lt k hk).1)).setCell (p := ⟨P, 0, none⟩) (.inl rfl) _
          have hsG : ∀ i, i < j → s i < wr.heap.size := fun i hi => by obtain ⟨cs, hc, _⟩ := s1 i hi; exact blk_lt hc
          have hb4 := HB4.out.size
          have hrs : w3.heap.size ≤ w4.heap.size := hsz4
          refine ⟨j + 1, by have := hj.out; exact (show j + 1 + q = L by omega), by first | rfl | (exact congrArg (Value.int .i64) (by push_cast; omega)), _, fun i => if i = j then w4.heap.size else s i, by simpa using blk_set HN8.out 0 (.slice (some ⟨k8, 0, none⟩) (j + 1) cap8), ?_, ⟨?_, ?_, ?_⟩, hMf⟩
          · rw [plist_succ]
            exact own_mod HO8.out hset (fun k hk => by omega)
          · intro i hi
            by_cases e : i = j
            · subst e
              simp only [if_pos]
              refine ⟨Z, hset.blk HZ8.out (by omega), fun x y c1 c2 c3 c4 => ⟨0, 0, ?_, ?_, rng_const c1 c2 c3 c4⟩⟩
              · have := idx_lt c1 c2 c3 c4
                exact (HZ.out _ (by unfold area; omega)).1
              · have := idx_lt c1 c2 c3 c4
                exact (HZ.out _ (by unfold area; omega)).2
            · simp only [if_neg e]
              have hi2 : i < j := by omega
              have hl1 := hsG i hi2
              have hl2 := s2 i hi2
              exact (((s1 i hi2).keep (HB4.out.block _ hl1)).keep (HM8.out.block _ (by omega) hl2.2)).keep (hset.block _ (by have := HM8.out.size; omega) (by omega))
          · intro i hi
            by_cases e : i = j
            · subst e
              simp only [if_pos]
              refine ⟨by omega, fun e => ?_⟩
              have e2 := Option.some.inj e
              simp at e2
              rcases HK8.out with h8 | h8
              · have := (HOW.out.lt _ h8).2; omega
              · omega
            · simp only [if_neg e]
              have hi2 : i < j := by omega
              refine ⟨(s2 i hi2).1, fun e => ?_⟩
              have e2 := Option.some.inj e
              simp at e2
              have := hsG i hi2
              rcases HK8.out with h8 | h8
              · exact (s2 i hi2).2 (by rw [h8, e2])
              · omega
          · intro i i2 hi hi2 hne
            by_cases e : i = j
            · subst e
              have e2 : i2 ≠ i := fun x => hne x.symm
              simp only [if_pos, if_neg e2]
              have := hsG i2 (by omega)
              omega
            · by_cases e2 : i2 = j
              · subst e2
                simp only [if_pos, if_neg e]
                have := hsG i (by omega)
                omega
              · simp only [if_neg e, if_neg e2]
                exact s3 i i2 (by omega) (by omega) hne
end Go.Proofs.Ytgofkgmhpnkchaa

/- Texts of this claim, joined: GridNew, AuditList. -/
import Derived.Test.YtfnflgcalhiamaaPackSz1
import Derived.Test.YtfnflgcalhiamaaPackSz3
import Derived.Test.YtfnflgcalhiamaaPackSz11
import Derived.Laws.AppendOwnNone
/- grid.New. -/
set_option linter.unusedVariables false
set_option linter.unusedSimpArgs false
namespace Go.Proofs.Ytfnflgcalhiamaa
open Go.RowKit

/-- One element is appended to a row of the call's own, in whose neighbourhood other new things lie. -/
theorem append_own {P : Program} {ops : Array Oper} {rest : List Oper} {o : Oper} {a : Act} {Q : Exit → Act → World → Prop} {W : World} (base : Nat) (hgd : o.guard = none) (s x : Operand) (t e : TypeId) (z : Value) (size bytes : Nat)
    (ho : o.op = .call { callee := .builtin .append, args := #[s, x], argTypes := #[t, t] })
    (ht : P.underlying t = some (.slice e)) (hinfo : (P.info? e).map (fun i => (i.zero, i.size, i.bytes)) = some (some z, size, bytes)) (hz : z.cells.size = size) (hsz : 0 < size)
    (v : Value) (n : Nat) (xs : List Value) (ys : List Value) (hs : a.eval s = v) (B : Nat) (hx : a.eval x = .slice (some ⟨B, 0, none⟩) 1 1) (hB : B = W.heap.size) (hys : ys.length = size) (h1 : ∀ u ∈ ys, u.oneCell' = true)
    (HO : W.ownsRow base e size v n xs) (hbase : base ≤ W.heap.size) (hl : (n + 1) * bytes ≤ 140737488355328) (hn : n + 1 ≤ 9223372036854775807)
    (h : ∀ v1 w1, w1.ownsRow base e size v1 (n + 1) (xs ++ ys) → Mod (fun k => v.ownBlock = some k) W w1 → (∀ k, v1.ownBlock = some k → v.ownBlock = some k ∨ W.heap.size ≤ k) → v1 ≠ .slice none 0 0 → wpList P ops Q rest (a.put o.dst v1) w1) :
    wpList P ops Q (o :: rest) a (W.alloc (.cells ys.toArray e)) := by
  obtain ⟨i0, hi, hzz⟩ := Option.map_eq_some_iff.1 hinfo
  simp only [Prod.mk.injEq] at hzz
  obtain ⟨hz0, hz1, hz2⟩ := hzz
  subst hB
  refine wpList_append_own_at (W.alloc (.cells ys.toArray e)) hgd s x t ho base e i0 z size bytes ht hi hz0 hz1 hz2 hz hsz v n xs hs (HO.alloc _) ⟨W.heap.size, 0, none⟩ 1 1 ys hx (by simpa using hys)
    (World.news_of_block (cs := ys.toArray) (t := e) (fr := (0, 0)) (heap_alloc_new W _)) h1 (by simp only [maxLen]; omega) hl (by simp; omega) ?_
  intro v1 w1 hown hg hnil hb
  refine h v1 w1 hown ?_ ?_ ?_
  · refine (Mod.of_below (below_alloc1 W _)).trans (S2 := fun k => v.ownBlock = some k) ⟨hg.os, hg.tape, hg.output, hg.size, fun k hk hn => hg.block k hk (fun e => hn e.symm)⟩ (fun _ x => .inl x)
  · intro k hk
    rcases hb with hb | hb
    · exact .inl (hb ▸ hk)
    · rw [hb] at hk
      have := Option.some.inj hk
      simp at this
      exact .inr (by omega)
  · intro e
    have := (hnil.1 e).2
    omega

/-- A pointer for each. -/
def ptrs (s : Nat → Nat) (n : Nat) : List Value := (List.range n).map fun i => .pointer (some ⟨s i, 0, none⟩)
theorem ptrs_succ (s : Nat → Nat) (n b : Nat) : ptrs (fun i => if i = n then b else s i) (n + 1) = ptrs s n ++ [.pointer (some ⟨b, 0, none⟩)] := by
  simp only [ptrs, List.range_succ, List.map_append, List.map_cons, List.map_nil, if_pos]
  congr 1
  refine List.map_congr_left (fun i hi => ?_)
  rw [if_neg (by have := List.mem_range.1 hi; omega)]
theorem ptrs_get (s : Nat → Nat) {n i : Nat} (h : i < n) : (ptrs s n)[i]? = some (.pointer (some ⟨s i, 0, none⟩)) := by simp [ptrs, h]

theorem piece_side {w h : Int} {k : Nat} (hw : 1 ≤ w) (hh : 1 ≤ h) (hw2 : w ≤ 1024) (hh2 : h ≤ 1024) (hk : k < acr w * acr h) :
    (piece ⟨0, 0, w - 1, h - 1⟩ k).x1 - (piece ⟨0, 0, w - 1, h - 1⟩ k).x0 + 1 = side w (k % acr w) ∧ (piece ⟨0, 0, w - 1, h - 1⟩ k).y1 - (piece ⟨0, 0, w - 1, h - 1⟩ k).y0 + 1 = side h (k / acr w) ∧
      0 ≤ (piece ⟨0, 0, w - 1, h - 1⟩ k).x0 ∧ (piece ⟨0, 0, w - 1, h - 1⟩ k).x0 < 2000 ∧ 0 ≤ (piece ⟨0, 0, w - 1, h - 1⟩ k).y0 ∧ (piece ⟨0, 0, w - 1, h - 1⟩ k).y0 < 2000 := by
  have e1 := acr_eq hw
  have e2 := acr_eq hh
  have hpos : 0 < acr w := by omega
  have q1 : k % acr w < acr w := Nat.mod_lt k hpos
  have q2 : k / acr w < acr h := Nat.div_lt_of_lt_mul hk
  have ep : piece ⟨0, 0, w - 1, h - 1⟩ k = tileOf ⟨0, 0, w - 1, h - 1⟩ (k % acr w : Nat) (k / acr w : Nat) := by
    unfold piece acr
    simp
  rw [ep]
  unfold tileOf side
  generalize k % acr w = a at q1 ⊢
  generalize k / acr w = b at q2 ⊢
  dsimp only
  have z1 : imax ((a : Int) * 16) 0 = 16 * a := by unfold imax; split <;> omega
  have z2 : imax ((b : Int) * 16) 0 = 16 * b := by unfold imax; split <;> omega
  rw [z1, z2, show (a : Int) * 16 + 16 - 1 = 16 * a + 15 by omega, show (b : Int) * 16 + 16 - 1 = 16 * b + 15 by omega]
  refine ⟨rfl, rfl, by omega, by omega, by omega, by omega⟩

theorem own_mod {S : Nat → Prop} {w w1 : World} {base : Nat} {e : TypeId} {size n : Nat} {v : Value} {xs : List Value} (h : w.ownsRow base e size v n xs) (hm : Mod S w w1) (hs : ∀ k, S k → k < base) : w1.ownsRow base e size v n xs := by
  refine ⟨h.1, ?_⟩
  rcases h.2 with h2 | ⟨g, cap, cur, h1, h2, h3, h4⟩
  · exact .inl h2
  · exact .inr ⟨g, cap, cur, h1, h2, hm.blk h3 (fun hk => by have := hs g hk; omega), h4⟩

/-- The first j slabs of a new grid. -/
def NewStep (w3 : World) (G : Nat) (w h v : Int) (j : Nat) (wr : World) : Prop :=
  ∃ (vj : Value) (s : Nat → Nat), wr.heap[G]? = some (.cells #[.int .i64 w, .int .i64 h, .int .i64 ((w + 15) / 16), vj] 101 (0, 0)) ∧ Hid (wr.ownsRow w3.heap.size 104 1 vj j (ptrs s j)) ∧
    Hid ((∀ i, i < j → SlabAt wr (s i) (fun k => k = s i) (side w (i % acr w)) (side h (i / acr w)) (fun _ _ => v)) ∧ (∀ i, i < j → w3.heap.size ≤ s i ∧ vj.ownBlock ≠ some (s i)) ∧ ∀ i i2, i < j → i2 < j → i ≠ i2 → s i ≠ s i2) ∧ Mod (fun k => k = G) w3 wr
/-- A new grid. -/
def GridNew (w h v : Int) (W : World) (e : Ending) (W' : World) : Prop :=
  ∃ g F, e = .returned (.tuple #[.pointer (some ⟨g, 0, none⟩), .int .i64 0]) ∧ Below W.heap.size W W' ∧ (∀ k, F k → W.heap.size ≤ k) ∧ GridAt W' g F w h (fun _ _ => v)
theorem info_Slab : (Try.prog.info? 104).map (fun i => (i.zero, i.size, i.bytes)) = some (some (.pointer none), 1, 8) := by kernel_rfl

set_option maxHeartbeats 2000000 in
set_option maxRecDepth 100000 in
theorem grid_New_ok (w h v : Int) (W : World) (w1 : 1 ≤ w) (w2 : w ≤ 1024) (h1 : 1 ≤ h) (h2 : h ≤ 1024) (v1 : -2147483648 ≤ v) (v2 : v ≤ 2147483647) :
    Calls Try.prog 19 #[.int .i64 w, .int .i64 h, .int .i64 v] W (GridNew w h v W) := by
  go_enter Try.func19, Try.ntmps19
  go_wp2_with fail
  refine (within_ok 0 0 0 0 w h _ w1 w2 h1 h2 (by omega) (by omega) (by omega) (by omega) (by omega) (by omega)).mono ?_
  rintro e w2' ⟨rfl, hb⟩
  have n1 := below_blk hb (blk_new W _)
  have hB := below_next (below_alloc1 W _) hb
  have hs1 : W.heap.size + 1 ≤ w2'.heap.size := by have := hb.size; rwa [alloc_size] at this
  clear hb
  have j_0 := cells_w n1 0 rfl
  have j_1 := cells_w n1 1 rfl
  have j_2 := cells_w n1 2 rfl
  have j_3 := cells_w n1 3 rfl
  have ja_0 := fun o => cells_w (below_blk (below_alloc1 w2' o) n1) 0 rfl
  have ja_1 := fun o => cells_w (below_blk (below_alloc1 w2' o) n1) 1 rfl
  have ja_2 := fun o => cells_w (below_blk (below_alloc1 w2' o) n1) 2 rfl
  have ja_3 := fun o => cells_w (below_blk (below_alloc1 w2' o) n1) 3 rfl
  go_wp2_with fail
  rw [show w + 16 - 1 = w + 15 by omega]
  clear j_0 j_1 j_2 j_3 ja_0 ja_1 ja_2 ja_3
  have nG := blk_new w2' (.cells #[.int .i64 w, .int .i64 h, .int .i64 ((w + 15) / 16), .slice none 0 0] 101)
  have hB1 := below_next hB (below_alloc1 w2' (.cells #[.int .i64 w, .int .i64 h, .int .i64 ((w + 15) / 16), .slice none 0 0] 101))
  refine (pieces_ok 0 0 (w - 1) (h - 1) _ (by omega) (by omega) (by omega) (by omega) (by omega) (by omega)).mono ?_
  rintro e w3 ⟨pv, rfl, hb, hown⟩
  replace nG := below_blk hb nG
  replace hB1 := below_next hB1 hb
  have hs2 : w2'.heap.size + 1 ≤ w3.heap.size := by have := hb.size; rwa [alloc_size] at this
  obtain ⟨G, hG⟩ : ∃ G, w2'.heap.size = G := ⟨_, rfl⟩
  rw [hG] at nG hs2 ⊢
  have hGW : W.heap.size < G := by omega
  have hbw := acr_bd w1 w2
  have hbh := acr_bd h1 h2
  have hm3 := Nat.mul_le_mul hbw.2 hbh.2
  have hm4 := Nat.mul_le_mul hbw.1 hbh.1
  have hm : nx 0 (w - 1) * nx 0 (h - 1) = acr w * acr h := rfl
  rw [hm] at hown
  obtain ⟨m, hm⟩ : ∃ m, acr w * acr h = m := ⟨_, rfl⟩
  rw [hm] at hown hm3 hm4
  obtain ⟨B, cap, cs, rfl, hcap, hBB, hrow, hcs⟩ := PieceRow.of_own (by omega) hown
  have hBG : B ≠ G := by
    rw [alloc_size] at hBB
    omega
  have HM := Lib.hid hm
  clear hown hb hm n1 hB hG hBB
  go_wp2_with fail
  go_loopg [37] m (fun q v37 wr => ∃ j : Nat, Hid (j + q = m) ∧ v37 = .int .i64 (j : Int) ∧ NewStep w3 G w h v j wr)
  case atStart => exact ⟨0, Nat.zero_add _, rfl, _, fun _ => 0, nG, World.ownsRow_nil w3 w3.heap.size 104 1, ⟨fun i hi => by omega, fun i hi => by omega, fun i _ hi => by omega⟩, Mod.refl _ _⟩
  case round =>
    obtain ⟨j, hj, rfl, vj, s, nGr, hown, hsl, hM⟩ := hrel
    have hrowr := hM.blk hrow hBG
    cases gk with
    | zero =>
      have ht : decide (j < m) = false := decide_eq_false (by have := hj.out; omega)
      go_wp2_with fail
      go_ret2
      have ej : j = m := hj.out
      subst ej
      obtain ⟨k, cap2, cs2, hv, hc1, hc2, hc3, hc4⟩ := own_row hown.out (by omega)
      subst hv
      obtain ⟨s1, s2, s3⟩ := hsl.out
      refine ⟨G, fun k' => k' = G ∨ k' = k ∨ ∃ i, i < j ∧ k' = s i, rfl, hB1.trans (hM.below hB1.size (fun k' hk => by rw [hk]; omega)), ?_, k, j, cap2, cs2, s, fun i k' => k' = s i, w1, w2, h1, h2, .inl rfl, .inr (.inl rfl), by omega, ?_, HM.out.symm, hc1, nGr, hc3, fun i hi => hc4 i _ (ptrs_get s hi), s1, ?_, ?_⟩
      · rintro k' (rfl | rfl | ⟨i, hi, rfl⟩)
        · omega
        · omega
        · have := (s2 i hi).1
          omega
      · rintro k' (rfl | rfl | ⟨i, hi, rfl⟩)
        · exact blk_lt nGr
        · exact blk_lt hc3
        · exact (s1 i hi).lt _ (s1 i hi).own
      · rintro i k' hi rfl
        have q1 := s2 i hi
        exact ⟨.inr (.inr ⟨i, hi, rfl⟩), by omega, fun e => q1.2 (by rw [e]; rfl)⟩
      · rintro i i2 k' hi hi2 hne rfl e
        exact s3 i i2 hi hi2 hne e
    | succ q =>
      have hlt : j < m := by have := hj.out; omega
      have ht : decide (j < m) = true := decide_eq_true hlt
      have hji : (j : Int) < (m : Int) := by omega
      have c0 := (blk_cell hrowr (j * 4 + 0)).trans (hcs j 0 hlt (by omega))
      have c1 := (blk_cell hrowr (j * 4 + 1)).trans (hcs j 1 hlt (by omega))
      have c2 := (blk_cell hrowr (j * 4 + 2)).trans (hcs j 2 hlt (by omega))
      have c3 := (blk_cell hrowr (j * 4 + 3)).trans (hcs j 3 hlt (by omega))
      have hps := piece_side w1 h1 w2 h2 (show j < acr w * acr h by rw [HM.out]; exact hlt)
      obtain ⟨P, hP⟩ : ∃ P, piece ⟨0, 0, w - 1, h - 1⟩ j = P := ⟨_, rfl⟩
      rw [hP] at hps c0 c1 c2 c3
      obtain ⟨X0, Y0, X1, Y1⟩ := P
      simp only [R4.cells, List.getElem?_cons_zero, List.getElem?_cons_succ, Nat.add_zero] at c0 c1 c2 c3
      dsimp only at hps
      obtain ⟨p1, p2, p3, p4, p5, p6⟩ := hps
      have b1 := side_bd w1 (Nat.mod_lt j (by omega : 0 < acr w))
      have b2 := side_bd h1 (Nat.div_lt_of_lt_mul (by rw [HM.out]; exact hlt) : j / acr w < acr h)
      have P1 := Lib.hid p1
      have P2 := Lib.hid p2
      have wX : wrap64 (X1 - X0 + 1) = X1 - X0 + 1 := wrap64_id (by omega) (by omega)
      go_wp2_with fail
      refine (slab_New_ok _ _ v _ b1.1 b1.2 b2.1 b2.2 v1 v2).mono ?_
      rintro e w5 ⟨b, rfl, hbge, hb5, HSb⟩
      have hbb := below_next (below_alloc1 wr _) hb5
      rw [alloc_size] at hbge
      have nG5 := below_blk hbb nGr
      have hown5 := own_below hown.out hbb
      have hsz3 := hM.size
      have hsz5 := hbb.size
      have k_0 := cells_w nG5 0 rfl
      have k_1 := cells_w nG5 1 rfl
      have k_2 := cells_w nG5 2 rfl
      have k_3 := cells_w nG5 3 rfl
      have ka := fun o => cells_w (below_blk (below_alloc1 w5 o) nG5) 3 rfl
      clear hb5 c0 c1 c2 c3 p1 p2 wX
      go_wp2_with (at_builtin; refine append_own w3.heap.size rfl (.tmp 65) (.tmp 67) 99 104 _ 1 8 rfl Try.underlying99 info_Slab rfl (by omega) _ _ _ [.pointer (some ⟨b, 0, none⟩)] rfl _ rfl rfl rfl ?_ hown5 (by omega) (by omega) (by omega) ?_)
      · intro u hu; simp at hu; subst hu; rfl
      · intro v8 w8 hown8 hM8 hblk hnn
        obtain ⟨k8, cap8, cs8, hv8, _, _, _, _⟩ := own_row hown8 (by omega)
        have hGo : vj.ownBlock ≠ some G := fun e => by have := (hown5.lt G e).1; omega
        have nG8 := hM8.blk nG5 hGo
        clear k_0 k_1 k_2 k_3 ka
        have k_0 := cells_w nG8 0 rfl
        have k_1 := cells_w nG8 1 rfl
        have k_2 := cells_w nG8 2 rfl
        have k_3 := cells_w nG8 3 rfl
        have z_0 := blk_frozen nG8 0
        have z_1 := blk_frozen nG8 1
        have z_2 := blk_frozen nG8 2
        have z_3 := blk_frozen nG8 3
        subst hv8
        go_wp2_with fail
        generalize Value.slice (some ⟨k8, 0, none⟩) (j + 1) cap8 = v8 at hown8 hblk hnn ⊢
        go_roundg q
        case measure => omega
        case rel =>
          obtain ⟨s1, s2, s3⟩ := hsl.out
          have hMf : Mod (fun k => k = G) w3 (w8.setCell ⟨G, 3, none⟩ v8) := ((hM.then_below hbb).trans hM8 (fun k hk => .inr (hown5.lt k hk).1)).setCell (p := ⟨G, 3, none⟩) (.inl rfl) v8
          have hset : Mod (fun k => k = G) w8 (w8.setCell ⟨G, 3, none⟩ v8) := (Mod.refl (fun k => k = G) w8).setCell (p := ⟨G, 3, none⟩) (.inl rfl) v8
          have hsG : ∀ i, i < j → s i < wr.heap.size := fun i hi => (s1 i hi).lt _ (s1 i hi).own
          have hbl := HSb.lt b rfl
          have hown9 : ∀ k, vj.ownBlock = some k → k < wr.heap.size := fun k hk => (hown.out.lt k hk).2
          refine ⟨j + 1, by have := hj.out; exact (show j + 1 + q = m by omega), congrArg (Value.int .i64) (by push_cast; omega), v8, fun i => if i = j then b else s i, by simpa using blk_set nG8 3 v8, ?_, ⟨?_, ?_, ?_⟩, hMf⟩
          · rw [ptrs_succ]
            exact own_mod hown8 hset (fun k hk => by omega)
          · intro i hi
            by_cases e : i = j
            · subst e
              simp only [if_pos]
              exact (HSb.mod hM8 (fun k hk hk2 => by subst hk; have := hown9 k hk2; omega)).mod hset (fun k hk hk2 => by omega)
            · simp only [if_neg e]
              have hi2 : i < j := by omega
              exact (((s1 i hi2).below hbb).mod hM8 (fun k hk hk2 => by subst hk; exact (s2 i hi2).2 hk2)).mod hset (fun k hk hk2 => by have := (s2 i hi2).1; omega)
          · intro i hi
            by_cases e : i = j
            · subst e
              simp only [if_pos]
              refine ⟨by omega, fun e => ?_⟩
              rcases hblk b e with h8 | h8
              · have := hown9 b h8; omega
              · omega
            · simp only [if_neg e]
              have hi2 : i < j := by omega
              refine ⟨(s2 i hi2).1, fun e => ?_⟩
              have := hsG i hi2
              rcases hblk _ e with h8 | h8
              · exact (s2 i hi2).2 h8
              · omega
          · intro i i2 hi hi2 hne
            by_cases e : i = j
            · subst e
              have e2 : i2 ≠ i := fun x => hne x.symm
              simp only [if_pos, if_neg e2]
              have := hsG i2 (by omega)
              omega
            · by_cases e2 : i2 = j
              · subst e2
                simp only [if_pos, if_neg e]
                have := hsG i (by omega)
                omega
              · simp only [if_neg e, if_neg e2]
                exact s3 i i2 (by omega) (by omega) hne
end Go.Proofs.Ytfnflgcalhiamaa
/- audit.Check: the list of what doesn't go together. -/
set_option linter.unusedVariables false
set_option linter.unusedSimpArgs false
namespace Go.Proofs.Ytfnflgcalhiamaa
open Go.RowKit

/-- The findings of the first n cells; how many. -/
def fnd (kind : Int) (d : Nat → Bool) (w : Nat) : Nat → List Value
  | 0 => []
  | i + 1 => if d i then fnd kind d w i ++ [.int .i64 kind, .int .i64 ((i % w : Nat) : Int), .int .i64 ((i / w : Nat) : Int)] else fnd kind d w i
def cnt (d : Nat → Bool) : Nat → Nat
  | 0 => 0
  | i + 1 => if d i then cnt d i + 1 else cnt d i
theorem cnt_le (d : Nat → Bool) : ∀ n, cnt d n ≤ n
  | 0 => Nat.le_refl _
  | n + 1 => by
    have := cnt_le d n
    show (if d n then cnt d n + 1 else cnt d n) ≤ n + 1
    split <;> omega
theorem fnd_one (kind : Int) (d : Nat → Bool) (w : Nat) : ∀ n, ∀ u ∈ fnd kind d w n, u.oneCell' = true
  | 0, u, h => by cases h
  | n + 1, u, h => by
    have h2 : u ∈ (if d n then fnd kind d w n ++ [.int .i64 kind, .int .i64 ((n % w : Nat) : Int), .int .i64 ((n / w : Nat) : Int)] else fnd kind d w n) := h
    split at h2
    · rcases List.mem_append.1 h2 with h3 | h3
      · exact fnd_one kind d w n u h3
      · simp at h3
        rcases h3 with rfl | rfl | rfl <;> rfl
    · exact fnd_one kind d w n u h2
theorem fnd_yes {kind : Int} {d : Nat → Bool} {w n : Nat} (h : d n = true) : fnd kind d w (n + 1) = fnd kind d w n ++ [.int .i64 kind, .int .i64 ((n % w : Nat) : Int), .int .i64 ((n / w : Nat) : Int)] := if_pos h
theorem fnd_no {kind : Int} {d : Nat → Bool} {w n : Nat} (h : d n = false) : fnd kind d w (n + 1) = fnd kind d w n := by
  show (if d n then _ else _) = _
  rw [h]; rfl
theorem cnt_yes {d : Nat → Bool} {n : Nat} (h : d n = true) : cnt d (n + 1) = cnt d n + 1 := if_pos h
theorem cnt_no {d : Nat → Bool} {n : Nat} (h : d n = false) : cnt d (n + 1) = cnt d n := by
  show (if d n then _ else _) = _
  rw [h]; rfl
theorem info_Finding : (Try.prog.info? 55).map (fun i => (i.zero, i.size, i.bytes)) = some (some (.agg #[.int .i64 0, .int .i64 0, .int .i64 0]), 3, 24) := by kernel_rfl
theorem own_stay {S : Nat → Prop} {w w1 : World} {base : Nat} {e : TypeId} {size n : Nat} {v : Value} {xs : List Value} (h : w.ownsRow base e size v n xs) (hm : Mod S w w1) (hs : ∀ k, v.ownBlock = some k → ¬ S k) : w1.ownsRow base e size v n xs := by
  refine ⟨h.1, ?_⟩
  rcases h.2 with h2 | ⟨g, cap, cur, h1, h2, h3, h4⟩
  · exact .inl h2
  · exact .inr ⟨g, cap, cur, h1, h2, hm.blk h3 (hs g (by rw [h1]; rfl)), h4⟩
theorem nth_cell (w h j : Nat) (W : World) (w1 : 1 ≤ w) (w2 : w ≤ 1024) (h1 : 1 ≤ h) (h2 : h ≤ 1024) (hj : j < w * h) :
    Calls Try.prog 29 #[.agg #[.int .i64 0, .int .i64 0, .int .i64 ((w : Int) - 1), .int .i64 ((h : Int) - 1)], .int .i64 (j : Int)] W fun e W' => e = .returned (.tuple #[.agg #[.int .i64 ((j % w : Nat) : Int), .int .i64 ((j / w : Nat) : Int)], .bool true]) ∧ Below W.heap.size W W' := by
  refine (nth_ok 0 0 ((w : Int) - 1) ((h : Int) - 1) j W (by omega) (by omega) (by omega) (by omega) (by omega) (by omega) (by omega) ?_).mono ?_
  · rw [show (w : Int) - 1 - 0 + 1 = w by omega, show (h : Int) - 1 - 0 + 1 = h by omega]
    exact_mod_cast hj
  · rintro e W' ⟨rfl, hb⟩
    refine ⟨?_, hb⟩
    rw [show (w : Int) - 1 - 0 + 1 = w by omega, Int.zero_add, Int.zero_add]
    push_cast
    rfl
theorem pyr_at0 (p : Nat) (F : Nat → Prop) (w h : Int) (x y : Int) (f : Int → Int → Int) (W : World) (H : PyrAt W p F w h f) (a1 : 0 ≤ x) (a2 : x < w) (a3 : 0 ≤ y) (a4 : y < h) :
    Calls Try.prog 30 #[.pointer (some ⟨p, 0, none⟩), .int .i64 0, .agg #[.int .i64 x, .int .i64 y]] W fun e W' => e = .returned (.tuple #[.agg #[.int .i64 (f x y), .int .i64 (f x y)], .int .i64 0]) ∧ Below W.heap.size W W' := by
  obtain ⟨d1, d2, d3, d4⟩ := H.dims
  have hL := levs_bd d1 d2 d3 d4
  refine (pyr_At_any p F w h x y 0 f W H).mono ?_
  rintro e W' ⟨a, b, c, rfl, hA, hb⟩
  unfold AtIs at hA
  rw [if_pos ⟨by omega, by omega⟩, show (0 : Int).toNat = 0 from rfl, lw0, lw0, if_pos ⟨a1, a2, a3, a4⟩] at hA
  obtain ⟨rfl, hr⟩ := hA
  obtain ⟨rfl, rfl⟩ := hr.unique (rng0 (f := f) a1 a2 a3 a4)
  exact ⟨rfl, hb⟩
theorem fen_at0 (b A w h : Nat) (f : Int → Int → Int) (x y : Int) (W : World) (H : FenAt W b A w h (fenS f)) (hB : FenB f w h) (a1 : 0 ≤ x) (a2 : x < w) (a3 : 0 ≤ y) (a4 : y < h) :
    Calls Try.prog 31 #[.pointer (some ⟨b, 0, none⟩), .agg #[.int .i64 x, .int .i64 y]] W fun e W' => e = .returned (.tuple #[.int .i64 (f x y), .int .i64 0]) ∧ Below W.heap.size W W' := by
  refine (fen_At_any b A w h f x y W H hB).mono ?_
  rw [atV_in (w := (w : Int)) (h := (h : Int)) ⟨a1, a2, a3, a4⟩, atC_in (w := (w : Int)) (h := (h : Int)) ⟨a1, a2, a3, a4⟩]
  rintro e W' h; exact h
/-- Does a cell not go together? -/
def offD (f1 f2 : Int → Int → Int) (w i : Nat) : Bool := f2 ((i % w : Nat) : Int) ((i / w : Nat) : Int) != f1 ((i % w : Nat) : Int) ((i / w : Nat) : Int)
/-- A list of findings. -/
def CheckOut (w h : Nat) (f1 f2 f3 : Int → Int → Int) (W : World) (e : Ending) (W' : World) : Prop :=
  ∃ v base, e = .returned (.tuple #[v, .int .i64 0]) ∧ W.heap.size ≤ base ∧ W'.ownsRow base 55 3 v (cnt (offD f1 f2 w) (w * h) + cnt (offD f1 f3 w) (w * h)) (fnd 1 (offD f1 f2 w) w (w * h) ++ fnd 2 (offD f1 f3 w) w (w * h)) ∧ Below W.heap.size W W'
/-- Behind j cells. -/
def CheckStep (f1 f2 f3 : Int → Int → Int) (w : Nat) (W5 : World) (j : Nat) (v9 v10 : Value) (wr : World) : Prop :=
  Hid (wr.ownsRow W5.heap.size 55 3 v9 (cnt (offD f1 f2 w) j) (fnd 1 (offD f1 f2 w) w j)) ∧ Hid (wr.ownsRow W5.heap.size 55 3 v10 (cnt (offD f1 f3 w) j) (fnd 2 (offD f1 f3 w) w j)) ∧
    Below W5.heap.size W5 wr ∧ Hid (∀ k, v9.ownBlock = some k → v10.ownBlock ≠ some k)

set_option maxHeartbeats 4000000 in
set_option maxRecDepth 100000 in
theorem audit_Check_ok (g : Nat) (F : Nat → Prop) (w h : Nat) (f1 f2 f3 : Int → Int → Int) (p : Nat) (Fp : Nat → Prop) (b A : Nat) (W : World) (HG : GridAt W g F w h f1) (HP : PyrAt W p Fp w h f2) (HF : FenAt W b A w h (fenS f3)) (hB3 : FenB f3 w h) :
    Calls Try.prog 11 #[.pointer (some ⟨g, 0, none⟩), .pointer (some ⟨p, 0, none⟩), .pointer (some ⟨b, 0, none⟩)] W (CheckOut w h f1 f2 f3 W) := by
  obtain ⟨d1, d2, d3, d4⟩ := HG.dims
  have HB3 := Lib.hid hB3
  clear hB3
  go_enter Try.func11, Try.ntmps11
  go_wp2_with fail
  refine (audit_check_any g F w h f1 p Fp w h f2 b A w h _ W HG HP HF 0 ⟨fun _ => rfl, fun z => absurd ⟨rfl, rfl, rfl, rfl⟩ z⟩).mono ?_
  rintro e W2 ⟨rfl, hb⟩
  have hB := hb
  replace HG := HG.below hb
  replace HP := HP.below hb
  replace HF := HF.below hb
  clear hb
  go_wp2_with fail
  refine (grid_All_ok g F w h f1 _ HG).mono ?_
  rintro e W3 ⟨rfl, hb⟩
  replace hB := below_next hB hb
  replace HG := HG.below hb
  replace HP := HP.below hb
  replace HF := HF.below hb
  clear hb
  go_wp2_with fail
  refine (grid_Values_ok g F w h 0 0 ((w : Int) - 1) ((h : Int) - 1) f1 W3 HG (by omega) (by omega) (by omega) (by omega) (by omega) (by omega) w h (by omega) (by omega)).mono ?_
  rintro e W5 ⟨k, capv, csv, rfl, hcv, hk, hb, hrow, hvals⟩
  replace hB := below_next hB hb
  replace HG := Lib.hid (HG.below hb)
  replace HP := Lib.hid (HP.below hb)
  replace HF := Lib.hid (HF.below hb)
  have hrowA : Hid (∃ M, w * h = M ∧ M ≤ 1048576) := ⟨_, rfl, Nat.mul_le_mul (show w ≤ 1024 by omega) (show h ≤ 1024 by omega)⟩
  obtain ⟨M, hM, hMb⟩ := hrowA.out
  rw [hM] at hvals hcv ⊢
  have HM := Lib.hid hM
  have HV := Lib.hid hvals
  have HBW := Lib.hid hB
  clear hrowA hM hvals hb hB
  go_wp2_with fail
  go_loopg [9, 10, 37] M (fun q v9 v10 v37 wr => ∃ j : Nat, Hid (j + q = M) ∧ v37 = .int .i64 (j : Int) ∧ CheckStep f1 f2 f3 w W5 j v9 v10 wr)
  case atStart => exact ⟨0, Nat.zero_add _, rfl, Lib.hid (World.ownsRow_nil W5 _ _ _), Lib.hid (World.ownsRow_nil W5 _ _ _), Below.refl _ _, fun k hk => by cases hk⟩
  case round =>
    obtain ⟨j, hj, rfl, HO1, HO2, hbr, HD⟩ := hrel
    cases gk with
    | zero =>
      have ej : j = M := hj.out
      have ht : decide (j < M) = false := decide_eq_false (by omega)
      have ht2 : decide ((j : Int) < (M : Int)) = false := decide_eq_false (by omega)
      subst ej
      have hc1 := cnt_le (offD f1 f2 w) j
      have hc2 := cnt_le (offD f1 f3 w) j
      obtain ⟨fi, hfi, hzz⟩ := Option.map_eq_some_iff.1 info_Finding
      simp only [Prod.mk.injEq] at hzz
      obtain ⟨hz0, hz1, hz2⟩ := hzz
      have hbs := hbr.size
      have hBs := HBW.out.size
      rcases HO2.out.2 with ⟨hv, hn⟩ | ⟨g2, cap2, cur2, hv, hv1, hv2, hv3, hv4, hv5, hv6⟩
      · subst hv
        have he : fnd 2 (offD f1 f3 w) w j = [] := List.eq_nil_of_length_eq_zero (by rw [HO2.out.1, hn])
        clear hn
        go_wp2_with (at_builtin; refine wpList_append_own_none rfl (.tmp 85) (.tmp 86) 38 rfl W5.heap.size 55 fi 3 Try.underlying38 hfi _ _ _ rfl HO1.out rfl ?_)
        go_ret2
        refine ⟨_, W5.heap.size, rfl, hBs, ?_, HBW.out.trans (hbr.mono hBs)⟩
        rw [HM.out, he, List.append_nil, show cnt (offD f1 f3 w) j = 0 from by
          have := HO2.out.1
          rw [he] at this
          simp at this
          omega]
        exact HO1.out
      · subst hv
        have HX2 := Lib.hid (And.intro hv2 (And.intro hv5 hv6))
        have HLL := Lib.hid HO2.out.1
        clear hv2 hv5 hv6 hv1 hv3 hv4 HO2
        go_wp2_with (at_builtin; refine wpList_append_own_at _ rfl (.tmp 85) (.tmp 86) 38 rfl W5.heap.size 55 fi _ 3 24 Try.underlying38 hfi hz0 hz1 hz2 rfl (by omega) _ _ _ rfl HO1.out ⟨g2, 0, none⟩ _ _ (fnd 2 (offD f1 f3 w) w j) rfl HLL.out ?_ (fnd_one _ _ _ _) (by simp only [maxLen]; omega) (by omega) (by omega) ?_)
        · intro q u hq
          rw [add_plain]
          refine cells_w HX2.out.1 q ?_
          have h6 := HX2.out.2.2
          rw [← h6, List.getElem?_take] at hq
          split at hq
          · simpa using hq
          · cases hq
        · intro v' w' hown hg hnil hb'
          have hM : Mod (fun k => Value.ownBlock u9 = some k) wr w' := ⟨hg.os, hg.tape, hg.output, hg.size, fun k hk hn => hg.block k hk (fun e => hn e.symm)⟩
          have hbf := hbr.trans (hM.below hbs (fun k hk => (HO1.out.lt k hk).1))
          clear hg hnil hb'
          go_wp2_with fail
          go_ret2
          exact ⟨_, W5.heap.size, rfl, hBs, by rw [HM.out]; exact hown, HBW.out.trans (hbf.mono hBs)⟩
    | succ m =>
      have hjM : j < M := by have := hj.out; omega
      have ht : decide (j < M) = true := decide_eq_true hjM
      have ht2 : decide ((j : Int) < (M : Int)) = true := decide_eq_true (by omega)
      have hjI : (j : Int) < (M : Int) := by omega
      have hIm : j % w < w := Nat.mod_lt j (by omega)
      have hJd : j / w < h := Nat.div_lt_of_lt_mul (by rw [HM.out]; exact hjM)
      have c1 := cells_w (below_blk hbr hrow) j (HV.out j hjM)
      go_wp2_with fail
      refine (grid_All_ok g F w h f1 _ (HG.out.below hbr)).mono ?_
      rintro e W6 ⟨rfl, hb⟩
      have hbr6 := below_next hbr hb
      have HO1a := Lib.hid (own_below HO1.out hb)
      have HO2a := Lib.hid (own_below HO2.out hb)
      clear hb c1
      go_wp2_with fail
      refine (nth_cell w h j W6 (by omega) (by omega) (by omega) (by omega) (by rw [HM.out]; exact hjM)).mono ?_
      rintro e W7 ⟨rfl, hb⟩
      have hbr7 := below_next hbr6 hb
      have HO1b := Lib.hid (own_below HO1a.out hb)
      have HO2b := Lib.hid (own_below HO2a.out hb)
      clear hb HO1a HO2a hbr6
      have EG : Hid (rowG f1 0 0 w j = f1 ((j % w : Nat) : Int) ((j / w : Nat) : Int)) := by
        show rowG f1 0 0 w j = _
        unfold rowG
        rw [Int.zero_add, Int.zero_add]
      have D1 : offD f1 f2 w j = (f2 ((j % w : Nat) : Int) ((j / w : Nat) : Int) != f1 ((j % w : Nat) : Int) ((j / w : Nat) : Int)) := rfl
      have D2 : offD f1 f3 w j = (f3 ((j % w : Nat) : Int) ((j / w : Nat) : Int) != f1 ((j % w : Nat) : Int) ((j / w : Nat) : Int)) := rfl
      have F1 := fun k => @fnd_yes k (offD f1 f2 w) w j
      have F2 := fun k => @fnd_yes k (offD f1 f3 w) w j
      rw [EG.out]
      clear EG
      obtain ⟨I, hI⟩ : ∃ I, j % w = I := ⟨_, rfl⟩
      obtain ⟨J, hJ⟩ : ∃ J, j / w = J := ⟨_, rfl⟩
      rw [hI, hJ] at D1 D2 F1 F2 ⊢
      rw [hI] at hIm
      rw [hJ] at hJd
      have HP0 := Lib.hid (fun W' H => pyr_at0 p Fp w h (I : Int) (J : Int) f2 W' H (by omega) (by omega) (by omega) (by omega))
      have HF0 := Lib.hid (fun W' H => fen_at0 b A w h f3 (I : Int) (J : Int) W' H HB3.out (by omega) (by omega) (by omega) (by omega))
      obtain ⟨G0, hG0⟩ : ∃ v, f1 (I : Int) (J : Int) = v := ⟨_, rfl⟩
      obtain ⟨P0, hP0⟩ : ∃ v, f2 (I : Int) (J : Int) = v := ⟨_, rfl⟩
      obtain ⟨N0, hN0⟩ : ∃ v, f3 (I : Int) (J : Int) = v := ⟨_, rfl⟩
      rw [hG0, hP0] at D1
      rw [hG0, hN0] at D2
      rw [hP0] at HP0
      rw [hN0] at HF0
      rw [hG0]
      have HFN := Lib.hid (And.intro F1 F2)
      clear hI hJ hG0 hP0 hN0 F1 F2
      go_wp2_with fail
      have n_B := (below_alloc1 W7 (.cells #[.int .i64 (I : Int), .int .i64 (J : Int)] 53))
      have n_0 : (W7.alloc (.cells #[.int .i64 (I : Int), .int .i64 (J : Int)] 53)).heap[W7.heap.size]? = some (.cells #[.int .i64 (I : Int), .int .i64 (J : Int)] 53) := (blk_new_at (W := W7) (o := .cells #[.int .i64 (I : Int), .int .i64 (J : Int)] 53) (by simp))
      obtain ⟨Wa, hWa⟩ : ∃ Wa, (W7.alloc (.cells #[.int .i64 (I : Int), .int .i64 (J : Int)] 53)) = Wa := ⟨_, rfl⟩
      rw [hWa] at n_0 n_B ⊢
      clear hWa
      have hbra := below_next hbr7 n_B
      refine (HP0.out Wa (HP.out.below hbra)).mono ?_
      rintro e W8 ⟨rfl, hb⟩
      have n8 := below_blk hb n_0
      have HO1d := Lib.hid (own_below (own_below HO1b.out n_B) hb)
      have HO2d := Lib.hid (own_below (own_below HO2b.out n_B) hb)
      have hbr8 := below_next hbra hb
      have hs8 := hbr8.size
      have hc1 := cnt_le (offD f1 f2 w) j
      have hc2 := cnt_le (offD f1 f3 w) j
      have nb8 : Hid (∀ k, u9.ownBlock = some k → k ≠ W7.heap.size) := fun k hk e => by have := (HO1b.out.lt k hk).2; omega
      clear hb n_B n_0 hbra HO1b HO2b hbr7 HP0 hbr HO1 HO2
      by_cases hd1 : P0 = G0
      · have u0 : (P0 != G0) = false := by simp [hd1]
        have y0 := fun o => cells_w (below_blk (below_alloc1 W8 o) n8) 0 rfl
        have y1 := fun o => cells_w (below_blk (below_alloc1 W8 o) n8) 1 rfl
        go_wp2_with fail
        clear y0 y1
        have r_B := (below_alloc1 W8 (.cells #[.int .i64 G0, .int .i64 G0] 83))
        have r_0 : (W8.alloc (.cells #[.int .i64 G0, .int .i64 G0] 83)).heap[W8.heap.size]? = some (.cells #[.int .i64 G0, .int .i64 G0] 83) := (blk_new_at (W := W8) (o := .cells #[.int .i64 G0, .int .i64 G0] 83) (by simp))
        obtain ⟨Wc, hWc⟩ : ∃ Wc, (W8.alloc (.cells #[.int .i64 G0, .int .i64 G0] 83)) = Wc := ⟨_, rfl⟩
        rw [hWc] at r_0 r_B ⊢
        clear hWc
        have nC := below_blk r_B n8
        have hbrc := below_next hbr8 r_B
        have HO1c : Hid (Wc.ownsRow W5.heap.size 55 3 u9 (cnt (offD f1 f2 w) (j + 1)) (fnd 1 (offD f1 f2 w) w (j + 1))) := by
          show Wc.ownsRow W5.heap.size 55 3 u9 (cnt (offD f1 f2 w) (j + 1)) (fnd 1 (offD f1 f2 w) w (j + 1))
          rw [u0] at D1
          rw [cnt_no D1, fnd_no D1]
          exact own_below HO1d.out r_B
        have HO2c := Lib.hid (own_below HO2d.out r_B)
        have HDc := HD
        clear r_0 r_B hbr8 HO1d HO2d n8 hs8 hd1 HD
        refine (HF0.out Wc (HF.out.below hbrc)).mono ?_
        rintro e W9 ⟨rfl, hb⟩
        have nD := below_blk hb nC
        have HO1e := Lib.hid (own_below HO1c.out hb)
        have HO2e := Lib.hid (own_below HO2c.out hb)
        have hbre := below_next hbrc hb
        have hse := hbre.size
        clear hb nC HO1c HO2c hbrc
        by_cases hd2 : N0 = G0
        · have u1 : (N0 != G0) = false := by simp [hd2]
          go_wp2_with fail
          go_roundg m
          case measure => omega
          case rel =>
            refine ⟨j + 1, by have := hj.out; exact (show j + 1 + m = M by omega), congrArg (Value.int .i64) (by push_cast; omega), HO1e, ?_, hbre, HDc⟩
            rw [u1] at D2
            rw [cnt_no D2, fnd_no D2]
            exact HO2e
        · have u1 : (N0 != G0) = true := by simp [hd2]
          have x_0 := cells_w nD 0 rfl
          have x_1 := cells_w nD 1 rfl
          go_wp2_with (at_builtin; refine append_own W5.heap.size rfl (.tmp 79) (.tmp 82) 38 55 _ 3 24 rfl Try.underlying38 info_Finding rfl (by omega) _ _ _ [.int .i64 2, .int .i64 (I : Int), .int .i64 (J : Int)] rfl _ rfl (by simp) rfl ?_ HO2e.out (by omega) (by omega) (by omega) ?_)
          · intro t ht; simp at ht; rcases ht with rfl | rfl | rfl <;> rfl
          · intro v2 Wf hown hM2 hblk hnn
            rw [u1] at D2
            have hbrf : Below W5.heap.size W5 Wf := hbre.trans (hM2.below hse (fun k hk => (HO2e.out.lt k hk).1))
            have HO1f := Lib.hid (own_keep HO1e.out hM2 (fun k hk e => HDc.out k hk e))
            have HO2f : Hid (Wf.ownsRow W5.heap.size 55 3 v2 (cnt (offD f1 f3 w) (j + 1)) (fnd 2 (offD f1 f3 w) w (j + 1))) := by
              show Wf.ownsRow W5.heap.size 55 3 v2 (cnt (offD f1 f3 w) (j + 1)) (fnd 2 (offD f1 f3 w) w (j + 1))
              rw [cnt_yes D2, HFN.out.2 2 D2]
              exact hown
            have HDf : Hid (∀ k, u9.ownBlock = some k → v2.ownBlock ≠ some k) := fun k hk e => by
              rcases hblk k e with z | z
              · exact HDc.out k hk z
              · have := (HO1e.out.lt k hk).2; omega
            clear hown hM2 hblk hnn HO1e HO2e hbre HDc
            go_wp2_with fail
            go_roundg m
            case measure => omega
            case rel => exact ⟨j + 1, by have := hj.out; exact (show j + 1 + m = M by omega), congrArg (Value.int .i64) (by push_cast; omega), HO1f, HO2f, hbrf, HDf⟩
      · have u0 : (P0 != G0) = true := by simp [hd1]
        have y0 := fun o => cells_w (below_blk (below_alloc1 W8 o) n8) 0 rfl
        have y1 := fun o => cells_w (below_blk (below_alloc1 W8 o) n8) 1 rfl
        go_wp2_with (at_builtin; refine append_own W5.heap.size rfl (.tmp 65) (.tmp 68) 38 55 _ 3 24 rfl Try.underlying38 info_Finding rfl (by omega) _ _ _ [.int .i64 1, .int .i64 (I : Int), .int .i64 (J : Int)] rfl _ rfl (by simp) rfl ?_ (own_below HO1d.out (below_alloc1 W8 _)) (by simp only [alloc_size]; omega) (by omega) (by omega) ?_)
        · intro t ht; simp at ht; rcases ht with rfl | rfl | rfl <;> rfl
        · intro v1 Wc hown hM1 hblk hnn
          rw [u0] at D1
          clear y0 y1
          have hAl := below_alloc1 W8 (.cells #[.int .i64 P0, .int .i64 P0] 83)
          have hbrc : Below W5.heap.size W5 Wc := (below_next hbr8 hAl).trans (hM1.below (by simp only [alloc_size]; omega) (fun k hk => (HO1d.out.lt k hk).1))
          have nC := hM1.blk (below_blk hAl n8) (fun e => (nb8.out _ e) rfl)
          have HO1c : Hid (Wc.ownsRow W5.heap.size 55 3 v1 (cnt (offD f1 f2 w) (j + 1)) (fnd 1 (offD f1 f2 w) w (j + 1))) := by
            show Wc.ownsRow W5.heap.size 55 3 v1 (cnt (offD f1 f2 w) (j + 1)) (fnd 1 (offD f1 f2 w) w (j + 1))
            rw [cnt_yes D1, HFN.out.1 1 D1]
            exact hown
          have HO2c := Lib.hid (own_keep (own_below HO2d.out hAl) hM1 (fun k hk e => HD.out k e hk))
          have HDc : Hid (∀ k, v1.ownBlock = some k → u10.ownBlock ≠ some k) := fun k hk e => by
            rcases hblk k hk with z | z
            · exact HD.out k z e
            · have z2 := ((own_below HO2d.out hAl).lt k e).2
              rw [alloc_size] at z2
              have z3 : W8.heap.size + 1 ≤ k := z
              omega
          clear hown hM1 hblk hnn hAl HO1d HO2d hbr8 hs8 HD n8
          have x_0 := cells_w nC 0 rfl
          have x_1 := cells_w nC 1 rfl
          go_wp2_with fail
          refine (HF0.out Wc (HF.out.below hbrc)).mono ?_
          rintro e W9 ⟨rfl, hb⟩
          have nD := below_blk hb nC
          have HO1e := Lib.hid (own_below HO1c.out hb)
          have HO2e := Lib.hid (own_below HO2c.out hb)
          have hbre := below_next hbrc hb
          have hse := hbre.size
          clear hb x_0 x_1 nC HO1c HO2c hbrc
          by_cases hd2 : N0 = G0
          · have u1 : (N0 != G0) = false := by simp [hd2]
            go_wp2_with fail
            go_roundg m
            case measure => omega
            case rel =>
              refine ⟨j + 1, by have := hj.out; exact (show j + 1 + m = M by omega), congrArg (Value.int .i64) (by push_cast; omega), HO1e, ?_, hbre, HDc⟩
              rw [u1] at D2
              rw [cnt_no D2, fnd_no D2]
              exact HO2e
          · have u1 : (N0 != G0) = true := by simp [hd2]
            have x_0 := cells_w nD 0 rfl
            have x_1 := cells_w nD 1 rfl
            go_wp2_with (at_builtin; refine append_own W5.heap.size rfl (.tmp 79) (.tmp 82) 38 55 _ 3 24 rfl Try.underlying38 info_Finding rfl (by omega) _ _ _ [.int .i64 2, .int .i64 (I : Int), .int .i64 (J : Int)] rfl _ rfl (by simp) rfl ?_ HO2e.out (by omega) (by omega) (by omega) ?_)
            · intro t ht; simp at ht; rcases ht with rfl | rfl | rfl <;> rfl
            · intro v2 Wf hown hM2 hblk hnn
              rw [u1] at D2
              have hbrf : Below W5.heap.size W5 Wf := hbre.trans (hM2.below hse (fun k hk => (HO2e.out.lt k hk).1))
              have HO1f := Lib.hid (own_keep HO1e.out hM2 (fun k hk e => HDc.out k hk e))
              have HO2f : Hid (Wf.ownsRow W5.heap.size 55 3 v2 (cnt (offD f1 f3 w) (j + 1)) (fnd 2 (offD f1 f3 w) w (j + 1))) := by
                show Wf.ownsRow W5.heap.size 55 3 v2 (cnt (offD f1 f3 w) (j + 1)) (fnd 2 (offD f1 f3 w) w (j + 1))
                rw [cnt_yes D2, HFN.out.2 2 D2]
                exact hown
              have HDf : Hid (∀ k, v1.ownBlock = some k → v2.ownBlock ≠ some k) := fun k hk e => by
                rcases hblk k e with z | z
                · exact HDc.out k hk z
                · have := (HO1e.out.lt k hk).2; omega
              clear hown hM2 hblk hnn HO1e HO2e hbre HDc
              go_wp2_with fail
              go_roundg m
              case measure => omega
              case rel => exact ⟨j + 1, by have := hj.out; exact (show j + 1 + m = M by omega), congrArg (Value.int .i64) (by push_cast; omega), HO1f, HO2f, hbrf, HDf⟩
end Go.Proofs.Ytfnflgcalhiamaa

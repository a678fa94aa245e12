/- grid.New. -/
import Derived.Test.YtcomnpmkedabeaaDoorGridSet
import Derived.Test.YtcomnpmkedabeaaDoorRoom
set_option linter.unusedVariables false
set_option linter.unusedSimpArgs false
namespace Go.Proofs.YtcomnpmkedabeaaDoor
open Go.RowKit

/-- One element is appended to a row of the call's own, in whose neighbourhood other new things lie. -/
theorem append_own {P : Program} {ops : Array Oper} {rest : List Oper} {o : Oper} {a : Act} {Q : Exit → Act → World → Prop} {W : World} (base : Nat) (hgd : o.guard = none) (s x : Operand) (t e : TypeId) (z : Value) (size bytes : Nat)
    (ho : o.op = .call { callee := .builtin .append, args := #[s, x], argTypes := #[t, t] })
    (ht : P.underlying t = some (.slice e)) (hinfo : (P.info? e).map (fun i => (i.zero, i.size, i.bytes)) = some (some z, size, bytes)) (hz : z.cells.size = size) (hsz : 0 < size)
    (v : Value) (n : Nat) (xs : List Value) (ys : List Value) (hs : a.eval s = v) (B : Nat) (hx : a.eval x = .slice (some ⟨B, 0, none⟩) 1 1) (hB : B = W.heap.size) (hys : ys.length = size) (h1 : ∀ u ∈ ys, u.oneCell' = true)
    (HO : W.ownsRow base e size v n xs) (hbase : base ≤ W.heap.size) (hl : (n + 1) * bytes ≤ 140737488355328) (hn : n + 1 ≤ 9223372036854775807)
    (h : ∀ v1 w1, w1.ownsRow base e size v1 (n + 1) (xs ++ ys) → Mod (fun k => v.ownBlock = some k) W w1 → (∀ k, v1.ownBlock = some k → v.ownBlock = some k ∨ W.heap.size ≤ k) → v1 ≠ .slice none 0 0 → wpList P ops Q rest (a.put o.dst v1) w1) :
    wpList P ops Q (o :: rest) a (W.alloc (.cells ys.toArray e)) := by
  obtain ⟨i0, hi, hzz⟩ := Option.map_eq_some_iff.1 hinfo
  simp only [Prod.mk.injEq] at hzz
  obtain ⟨hz0, hz1, hz2⟩ := hzz
  subst hB
  refine wpList_append_own_at (W.alloc (.cells ys.toArray e)) hgd s x t ho base e i0 z size bytes ht hi hz0 hz1 hz2 hz hsz v n xs hs (HO.alloc _) ⟨W.heap.size, 0, none⟩ 1 1 ys hx (by simpa using hys)
    (World.news_of_block (cs := ys.toArray) (t := e) (fr := (0, 0)) (heap_alloc_new W _)) h1 (by simp only [maxLen]; omega) hl (by simp; omega) ?_
  intro v1 w1 hown hg hnil hb
  refine h v1 w1 hown ?_ ?_ ?_
  · refine (Mod.of_below (below_alloc1 W _)).trans (S2 := fun k => v.ownBlock = some k) ⟨hg.os, hg.tape, hg.output, hg.size, fun k hk hn => hg.block k hk (fun e => hn e.symm)⟩ (fun _ x => .inl x)
  · intro k hk
    rcases hb with hb | hb
    · exact .inl (hb ▸ hk)
    · rw [hb] at hk
      have := Option.some.inj hk
      simp at this
      exact .inr (by omega)
  · intro e
    have := (hnil.1 e).2
    omega

/-- A pointer for each. -/
def ptrs (s : Nat → Nat) (n : Nat) : List Value := (List.range n).map fun i => .pointer (some ⟨s i, 0, none⟩)
theorem ptrs_succ (s : Nat → Nat) (n b : Nat) : ptrs (fun i => if i = n then b else s i) (n + 1) = ptrs s n ++ [.pointer (some ⟨b, 0, none⟩)] := by
  simp only [ptrs, List.range_succ, List.map_append, List.map_cons, List.map_nil, if_pos]
  congr 1
  refine List.map_congr_left (fun i hi => ?_)
  rw [if_neg (by have := List.mem_range.1 hi; omega)]
theorem ptrs_get (s : Nat → Nat) {n i : Nat} (h : i < n) : (ptrs s n)[i]? = some (.pointer (some ⟨s i, 0, none⟩)) := by simp [ptrs, h]

theorem piece_side {w h : Int} {k : Nat} (hw : 1 ≤ w) (hh : 1 ≤ h) (hw2 : w ≤ 1024) (hh2 : h ≤ 1024) (hk : k < acr w * acr h) :
    (piece ⟨0, 0, w - 1, h - 1⟩ k).x1 - (piece ⟨0, 0, w - 1, h - 1⟩ k).x0 + 1 = side w (k % acr w) ∧ (piece ⟨0, 0, w - 1, h - 1⟩ k).y1 - (piece ⟨0, 0, w - 1, h - 1⟩ k).y0 + 1 = side h (k / acr w) ∧
      0 ≤ (piece ⟨0, 0, w - 1, h - 1⟩ k).x0 ∧ (piece ⟨0, 0, w - 1, h - 1⟩ k).x0 < 2000 ∧ 0 ≤ (piece ⟨0, 0, w - 1, h - 1⟩ k).y0 ∧ (piece ⟨0, 0, w - 1, h - 1⟩ k).y0 < 2000 := by
  have e1 := acr_eq hw
  have e2 := acr_eq hh
  have hpos : 0 < acr w := by omega
  have q1 : k % acr w < acr w := Nat.mod_lt k hpos
  have q2 : k / acr w < acr h := Nat.div_lt_of_lt_mul hk
  have ep : piece ⟨0, 0, w - 1, h - 1⟩ k = tileOf ⟨0, 0, w - 1, h - 1⟩ (k % acr w : Nat) (k / acr w : Nat) := by
    unfold piece acr
    simp
  rw [ep]
  unfold tileOf side
  generalize k % acr w = a at q1 ⊢
  generalize k / acr w = b at q2 ⊢
  dsimp only
  have z1 : imax ((a : Int) * 16) 0 = 16 * a := by unfold imax; split <;> omega
  have z2 : imax ((b : Int) * 16) 0 = 16 * b := by unfold imax; split <;> omega
  rw [z1, z2, show (a : Int) * 16 + 16 - 1 = 16 * a + 15 by omega, show (b : Int) * 16 + 16 - 1 = 16 * b + 15 by omega]
  refine ⟨rfl, rfl, by omega, by omega, by omega, by omega⟩

theorem own_mod {S : Nat → Prop} {w w1 : World} {base : Nat} {e : TypeId} {size n : Nat} {v : Value} {xs : List Value} (h : w.ownsRow base e size v n xs) (hm : Mod S w w1) (hs : ∀ k, S k → k < base) : w1.ownsRow base e size v n xs := by
  refine ⟨h.1, ?_⟩
  rcases h.2 with h2 | ⟨g, cap, cur, h1, h2, h3, h4⟩
  · exact .inl h2
  · exact .inr ⟨g, cap, cur, h1, h2, hm.blk h3 (fun hk => by have := hs g hk; omega), h4⟩

/-- The first j slabs of a new grid. -/
def NewStep (w3 : World) (G : Nat) (w h v : Int) (j : Nat) (wr : World) : Prop :=
  ∃ (vj : Value) (s : Nat → Nat), wr.heap[G]? = some (.cells #[.int .i64 w, .int .i64 h, .int .i64 ((w + 15) / 16), vj] 78 (0, 0)) ∧ Hid (wr.ownsRow w3.heap.size 81 1 vj j (ptrs s j)) ∧
    Hid ((∀ i, i < j → SlabAt wr (s i) (fun k => k = s i) (side w (i % acr w)) (side h (i / acr w)) (fun _ _ => v)) ∧ (∀ i, i < j → w3.heap.size ≤ s i ∧ vj.ownBlock ≠ some (s i)) ∧ ∀ i i2, i < j → i2 < j → i ≠ i2 → s i ≠ s i2) ∧ Mod (fun k => k = G) w3 wr
/-- A new grid. -/
def GridNew (w h v : Int) (W : World) (e : Ending) (W' : World) : Prop :=
  ∃ g F, e = .returned (.tuple #[.pointer (some ⟨g, 0, none⟩), .int .i64 0]) ∧ Below W.heap.size W W' ∧ (∀ k, F k → W.heap.size ≤ k) ∧ GridAt W' g F w h (fun _ _ => v)
theorem info_Slab : (Tryd.prog.info? 81).map (fun i => (i.zero, i.size, i.bytes)) = some (some (.pointer none), 1, 8) := by kernel_rfl

set_option maxHeartbeats 2000000 in
set_option maxRecDepth 100000 in
theorem grid_New_ok (w h v : Int) (W : World) (w1 : 1 ≤ w) (w2 : w ≤ 1024) (h1 : 1 ≤ h) (h2 : h ≤ 1024) (v1 : -2147483648 ≤ v) (v2 : v ≤ 2147483647) :
    Calls Tryd.prog 17 #[.int .i64 w, .int .i64 h, .int .i64 v] W (GridNew w h v W) := by
  go_enter Tryd.func17, Tryd.ntmps17
  go_wp2_with fail
  refine (within_ok 0 0 0 0 w h _ w1 w2 h1 h2 (by omega) (by omega) (by omega) (by omega) (by omega) (by omega)).mono ?_
  rintro e w2' ⟨rfl, hb⟩
  have n1 := below_blk hb (blk_new W _)
  have hB := below_next (below_alloc1 W _) hb
  have hs1 : W.heap.size + 1 ≤ w2'.heap.size := by have := hb.size; rwa [alloc_size] at this
  clear hb
  have j_0 := cells_w n1 0 rfl
  have j_1 := cells_w n1 1 rfl
  have j_2 := cells_w n1 2 rfl
  have j_3 := cells_w n1 3 rfl
  have ja_0 := fun o => cells_w (below_blk (below_alloc1 w2' o) n1) 0 rfl
  have ja_1 := fun o => cells_w (below_blk (below_alloc1 w2' o) n1) 1 rfl
  have ja_2 := fun o => cells_w (below_blk (below_alloc1 w2' o) n1) 2 rfl
  have ja_3 := fun o => cells_w (below_blk (below_alloc1 w2' o) n1) 3 rfl
  go_wp2_with fail
  rw [show w + 16 - 1 = w + 15 by omega]
  clear j_0 j_1 j_2 j_3 ja_0 ja_1 ja_2 ja_3
  have nG := blk_new w2' (.cells #[.int .i64 w, .int .i64 h, .int .i64 ((w + 15) / 16), .slice none 0 0] 78)
  have hB1 := below_next hB (below_alloc1 w2' (.cells #[.int .i64 w, .int .i64 h, .int .i64 ((w + 15) / 16), .slice none 0 0] 78))
  refine (pieces_ok 0 0 (w - 1) (h - 1) _ (by omega) (by omega) (by omega) (by omega) (by omega) (by omega)).mono ?_
  rintro e w3 ⟨pv, rfl, hb, hown⟩
  replace nG := below_blk hb nG
  replace hB1 := below_next hB1 hb
  have hs2 : w2'.heap.size + 1 ≤ w3.heap.size := by have := hb.size; rwa [alloc_size] at this
  obtain ⟨G, hG⟩ : ∃ G, w2'.heap.size = G := ⟨_, rfl⟩
  rw [hG] at nG hs2 ⊢
  have hGW : W.heap.size < G := by omega
  have hbw := acr_bd w1 w2
  have hbh := acr_bd h1 h2
  have hm3 := Nat.mul_le_mul hbw.2 hbh.2
  have hm4 := Nat.mul_le_mul hbw.1 hbh.1
  have hm : nx 0 (w - 1) * nx 0 (h - 1) = acr w * acr h := rfl
  rw [hm] at hown
  obtain ⟨m, hm⟩ : ∃ m, acr w * acr h = m := ⟨_, rfl⟩
  rw [hm] at hown hm3 hm4
  obtain ⟨B, cap, cs, rfl, hcap, hBB, hrow, hcs⟩ := PieceRow.of_own (by omega) hown
  have hBG : B ≠ G := by
    rw [alloc_size] at hBB
    omega
  have HM := Lib.hid hm
  clear hown hb hm n1 hB hG hBB
  go_wp2_with fail
  go_loopg [37] m (fun q v37 wr => ∃ j : Nat, Hid (j + q = m) ∧ v37 = .int .i64 (j : Int) ∧ NewStep w3 G w h v j wr)
  case atStart => exact ⟨0, Nat.zero_add _, rfl, _, fun _ => 0, nG, World.ownsRow_nil w3 w3.heap.size 81 1, ⟨fun i hi => by omega, fun i hi => by omega, fun i _ hi => by omega⟩, Mod.refl _ _⟩
  case round =>
    obtain ⟨j, hj, rfl, vj, s, nGr, hown, hsl, hM⟩ := hrel
    have hrowr := hM.blk hrow hBG
    cases gk with
    | zero =>
      have ht : decide (j < m) = false := decide_eq_false (by have := hj.out; omega)
      go_wp2_with fail
      go_ret2
      have ej : j = m := hj.out
      subst ej
      obtain ⟨k, cap2, cs2, hv, hc1, hc2, hc3, hc4⟩ := own_row hown.out (by omega)
      subst hv
      obtain ⟨s1, s2, s3⟩ := hsl.out
      refine ⟨G, fun k' => k' = G ∨ k' = k ∨ ∃ i, i < j ∧ k' = s i, rfl, hB1.trans (hM.below hB1.size (fun k' hk => by rw [hk]; omega)), ?_, k, j, cap2, cs2, s, fun i k' => k' = s i, w1, w2, h1, h2, .inl rfl, .inr (.inl rfl), by omega, ?_, HM.out.symm, hc1, nGr, hc3, fun i hi => hc4 i _ (ptrs_get s hi), s1, ?_, ?_⟩
      · rintro k' (rfl | rfl | ⟨i, hi, rfl⟩)
        · omega
        · omega
        · have := (s2 i hi).1
          omega
      · rintro k' (rfl | rfl | ⟨i, hi, rfl⟩)
        · exact blk_lt nGr
        · exact blk_lt hc3
        · exact (s1 i hi).lt _ (s1 i hi).own
      · rintro i k' hi rfl
        have q1 := s2 i hi
        exact ⟨.inr (.inr ⟨i, hi, rfl⟩), by omega, fun e => q1.2 (by rw [e]; rfl)⟩
      · rintro i i2 k' hi hi2 hne rfl e
        exact s3 i i2 hi hi2 hne e
    | succ q =>
      have hlt : j < m := by have := hj.out; omega
      have ht : decide (j < m) = true := decide_eq_true hlt
      have hji : (j : Int) < (m : Int) := by omega
      have c0 := (blk_cell hrowr (j * 4 + 0)).trans (hcs j 0 hlt (by omega))
      have c1 := (blk_cell hrowr (j * 4 + 1)).trans (hcs j 1 hlt (by omega))
      have c2 := (blk_cell hrowr (j * 4 + 2)).trans (hcs j 2 hlt (by omega))
      have c3 := (blk_cell hrowr (j * 4 + 3)).trans (hcs j 3 hlt (by omega))
      have hps := piece_side w1 h1 w2 h2 (show j < acr w * acr h by rw [HM.out]; exact hlt)
      obtain ⟨P, hP⟩ : ∃ P, piece ⟨0, 0, w - 1, h - 1⟩ j = P := ⟨_, rfl⟩
      rw [hP] at hps c0 c1 c2 c3
      obtain ⟨X0, Y0, X1, Y1⟩ := P
      simp only [R4.cells, List.getElem?_cons_zero, List.getElem?_cons_succ, Nat.add_zero] at c0 c1 c2 c3
      dsimp only at hps
      obtain ⟨p1, p2, p3, p4, p5, p6⟩ := hps
      have b1 := side_bd w1 (Nat.mod_lt j (by omega : 0 < acr w))
      have b2 := side_bd h1 (Nat.div_lt_of_lt_mul (by rw [HM.out]; exact hlt) : j / acr w < acr h)
      have P1 := Lib.hid p1
      have P2 := Lib.hid p2
      have wX : wrap64 (X1 - X0 + 1) = X1 - X0 + 1 := wrap64_id (by omega) (by omega)
      go_wp2_with fail
      refine (slab_New_ok _ _ v _ b1.1 b1.2 b2.1 b2.2 v1 v2).mono ?_
      rintro e w5 ⟨b, rfl, hbge, hb5, HSb⟩
      have hbb := below_next (below_alloc1 wr _) hb5
      rw [alloc_size] at hbge
      have nG5 := below_blk hbb nGr
      have hown5 := own_below hown.out hbb
      have hsz3 := hM.size
      have hsz5 := hbb.size
      have k_0 := cells_w nG5 0 rfl
      have k_1 := cells_w nG5 1 rfl
      have k_2 := cells_w nG5 2 rfl
      have k_3 := cells_w nG5 3 rfl
      have ka := fun o => cells_w (below_blk (below_alloc1 w5 o) nG5) 3 rfl
      clear hb5 c0 c1 c2 c3 p1 p2 wX
      go_wp2_with (at_builtin; refine append_own w3.heap.size rfl (.tmp 65) (.tmp 67) 76 81 _ 1 8 rfl Tryd.underlying76 info_Slab rfl (by omega) _ _ _ [.pointer (some ⟨b, 0, none⟩)] rfl _ rfl rfl rfl ?_ hown5 (by omega) (by omega) (by omega) ?_)
      · intro u hu; simp at hu; subst hu; rfl
      · intro v8 w8 hown8 hM8 hblk hnn
        obtain ⟨k8, cap8, cs8, hv8, _, _, _, _⟩ := own_row hown8 (by omega)
        have hGo : vj.ownBlock ≠ some G := fun e => by have := (hown5.lt G e).1; omega
        have nG8 := hM8.blk nG5 hGo
        clear k_0 k_1 k_2 k_3 ka
        have k_0 := cells_w nG8 0 rfl
        have k_1 := cells_w nG8 1 rfl
        have k_2 := cells_w nG8 2 rfl
        have k_3 := cells_w nG8 3 rfl
        have z_0 := blk_frozen nG8 0
        have z_1 := blk_frozen nG8 1
        have z_2 := blk_frozen nG8 2
        have z_3 := blk_frozen nG8 3
        subst hv8
        go_wp2_with fail
        generalize Value.slice (some ⟨k8, 0, none⟩) (j + 1) cap8 = v8 at hown8 hblk hnn ⊢
        go_roundg q
        case measure => omega
        case rel =>
          obtain ⟨s1, s2, s3⟩ := hsl.out
          have hMf : Mod (fun k => k = G) w3 (w8.setCell ⟨G, 3, none⟩ v8) := ((hM.then_below hbb).trans hM8 (fun k hk => .inr (hown5.lt k hk).1)).setCell (p := ⟨G, 3, none⟩) (.inl rfl) v8
          have hset : Mod (fun k => k = G) w8 (w8.setCell ⟨G, 3, none⟩ v8) := (Mod.refl (fun k => k = G) w8).setCell (p := ⟨G, 3, none⟩) (.inl rfl) v8
          have hsG : ∀ i, i < j → s i < wr.heap.size := fun i hi => (s1 i hi).lt _ (s1 i hi).own
          have hbl := HSb.lt b rfl
          have hown9 : ∀ k, vj.ownBlock = some k → k < wr.heap.size := fun k hk => (hown.out.lt k hk).2
          refine ⟨j + 1, by have := hj.out; exact (show j + 1 + q = m by omega), congrArg (Value.int .i64) (by push_cast; omega), v8, fun i => if i = j then b else s i, by simpa using blk_set nG8 3 v8, ?_, ⟨?_, ?_, ?_⟩, hMf⟩
          · rw [ptrs_succ]
            exact own_mod hown8 hset (fun k hk => by omega)
          · intro i hi
            by_cases e : i = j
            · subst e
              simp only [if_pos]
              exact (HSb.mod hM8 (fun k hk hk2 => by subst hk; have := hown9 k hk2; omega)).mod hset (fun k hk hk2 => by omega)
            · simp only [if_neg e]
              have hi2 : i < j := by omega
              exact (((s1 i hi2).below hbb).mod hM8 (fun k hk hk2 => by subst hk; exact (s2 i hi2).2 hk2)).mod hset (fun k hk hk2 => by have := (s2 i hi2).1; omega)
          · intro i hi
            by_cases e : i = j
            · subst e
              simp only [if_pos]
              refine ⟨by omega, fun e => ?_⟩
              rcases hblk b e with h8 | h8
              · have := hown9 b h8; omega
              · omega
            · simp only [if_neg e]
              have hi2 : i < j := by omega
              refine ⟨(s2 i hi2).1, fun e => ?_⟩
              have := hsG i hi2
              rcases hblk _ e with h8 | h8
              · exact (s2 i hi2).2 h8
              · omega
          · intro i i2 hi hi2 hne
            by_cases e : i = j
            · subst e
              have e2 : i2 ≠ i := fun x => hne x.symm
              simp only [if_pos, if_neg e2]
              have := hsG i2 (by omega)
              omega
            · by_cases e2 : i2 = j
              · subst e2
                simp only [if_pos, if_neg e]
                have := hsG i (by omega)
                omega
              · simp only [if_neg e, if_neg e2]
                exact s3 i i2 (by omega) (by omega) hne
end Go.Proofs.YtcomnpmkedabeaaDoor

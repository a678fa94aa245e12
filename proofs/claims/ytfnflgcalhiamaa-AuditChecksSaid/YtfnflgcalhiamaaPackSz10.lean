/- Texts of this claim, joined: Pairs, Ref15, At16, Len64, Tier. -/
import Derived.Test.YtfnflgcalhiamaaPackSz1
import Derived.Test.YtfnflgcalhiamaaPackSz2
import Derived.Test.YtfnflgcalhiamaaPackSz8
import Derived.Test.YtfnflgcalhiamaaPackSz9
import Derived.Deep.LoopGhost
import Derived.Deep.RegionHeld3
import Derived.OwnWalk
/- Rows that a call owns, of elements of two cells. -/
set_option linter.unusedVariables false
set_option linter.unusedSimpArgs false
namespace Go.Proofs.Ytfnflgcalhiamaa
open Go.RowKit

/-- A row that the call owns: what lies where. -/
theorem own_rowS {W : World} {base n size : Nat} {e : TypeId} {v : Value} {xs : List Value} (h : W.ownsRow base e size v n xs) (hn : 0 < n) :
    ∃ k cap cs, v = .slice (some ⟨k, 0, none⟩) n cap ∧ n ≤ cap ∧ base ≤ k ∧ W.heap[k]? = some (.cells cs e (0, 0)) ∧ ∀ (i : Nat) (x : Value), xs[i]? = some x → cs[i]? = some x := by
  obtain ⟨h0, ⟨_, h2⟩ | ⟨k, cap, cs, h1, h2, h3, h4, h5, h6, h7⟩⟩ := h
  · omega
  · refine ⟨k, cap, cs, h1, h4, h2, h3, ?_⟩
    intro i x hx
    rw [← h7, List.getElem?_take] at hx
    split at hx
    · simpa using hx
    · cases hx
/-- A new block of one element is a row. -/
theorem own_box {W : World} {base size : Nat} {e : TypeId} {cs : Array Value} (hb : base ≤ W.heap.size) (hs : cs.size = size) : (W.alloc (.cells cs e)).ownsRow base e size (.slice (some ⟨W.heap.size, 0, none⟩) 1 1) 1 cs.toList :=
  ⟨by simp [hs], .inr ⟨W.heap.size, 1, cs, rfl, hb, blk_new _ _, Nat.le_refl _, by simp [maxLen], by simp [hs], by rw [List.take_of_length_le (by simp [hs])]⟩⟩
theorem info_Cell : (Try.prog.info? 53).map (fun i => (i.zero, i.size, i.bytes)) = some (some (.agg #[.int .i64 0, .int .i64 0]), 2, 16) := by kernel_rfl
theorem own_keep {S : Nat → Prop} {w w1 : World} {base : Nat} {e : TypeId} {size n : Nat} {v : Value} {xs : List Value} (h : w.ownsRow base e size v n xs) (hm : Mod S w w1) (hs : ∀ k, v.ownBlock = some k → ¬ S k) : w1.ownsRow base e size v n xs := by
  refine ⟨h.1, ?_⟩
  rcases h.2 with h2 | ⟨g, cap, cur, h1, h2, h3, h4⟩
  · exact .inl h2
  · exact .inr ⟨g, cap, cur, h1, h2, hm.blk h3 (fun hk => hs g (by rw [h1]; rfl) hk), h4⟩
/-- Pairs of numbers, as cells. -/
def pairs (f g : Nat → Int) (n : Nat) : List Value := (List.range n).flatMap fun k => [.int .i64 (f k), .int .i64 (g k)]
theorem pairs_succ (f g : Nat → Int) (n : Nat) : pairs f g (n + 1) = pairs f g n ++ [.int .i64 (f n), .int .i64 (g n)] := by simp [pairs, List.range_succ]
theorem pairs_length (f g : Nat → Int) (n : Nat) : (pairs f g n).length = n * 2 := by
  induction n with
  | zero => rfl
  | succ n ih => rw [pairs_succ, List.length_append, ih]; simp; omega
theorem pairs_get (f g : Nat → Int) : ∀ (n q : Nat), q < n → (pairs f g n)[q * 2]? = some (.int .i64 (f q)) ∧ (pairs f g n)[q * 2 + 1]? = some (.int .i64 (g q))
  | n + 1, q, hq => by
    rw [pairs_succ]
    by_cases e : q = n
    · subst e
      have hl := pairs_length f g q
      rw [List.getElem?_append_right (by omega), List.getElem?_append_right (by omega), hl]
      simp
    · have hl := pairs_length f g n
      rw [List.getElem?_append_left (by omega), List.getElem?_append_left (by omega)]
      exact pairs_get f g n q (by omega)
theorem pairs_cells {W : World} {base n : Nat} {e : TypeId} {v : Value} {f g : Nat → Int} (h : W.ownsRow base e 2 v n (pairs f g n)) (hn : 0 < n) :
    ∃ k cap, v = .slice (some ⟨k, 0, none⟩) n cap ∧ n ≤ cap ∧ base ≤ k ∧ ∀ q, q < n → W.cell? ⟨k, q * 2, none⟩ = some (.int .i64 (f q)) ∧ W.cell? ⟨k, q * 2 + 1, none⟩ = some (.int .i64 (g q)) := by
  obtain ⟨k, cap, cs, h1, h2, h3, h4, h5⟩ := own_rowS h hn
  refine ⟨k, cap, h1, h2, h3, fun q hq => ?_⟩
  have := pairs_get f g n q hq
  exact ⟨(blk_cell h4 _).trans (h5 _ _ this.1), (blk_cell h4 _).trans (h5 _ _ this.2)⟩
end Go.Proofs.Ytfnflgcalhiamaa
/- hachureref15.Sizes. -/
set_option linter.unusedVariables false
set_option linter.unusedSimpArgs false
namespace Go.Proofs.Ytfnflgcalhiamaa
open Go.RowKit

def lcells (w h : Int) (n : Nat) : List Value := (List.range n).flatMap fun k => [.int .i64 (lw w k), .int .i64 (lw h k)]
theorem lcells_succ (w h : Int) (n : Nat) : lcells w h (n + 1) = lcells w h n ++ [.int .i64 (lw w n), .int .i64 (lw h n)] := by simp [lcells, List.range_succ]
theorem lcells_length (w h : Int) (n : Nat) : (lcells w h n).length = n * 2 := by
  induction n with
  | zero => rfl
  | succ n ih => rw [lcells_succ, List.length_append, ih]; simp; omega
theorem lcells_get (w h : Int) : ∀ (n q : Nat), q < n → (lcells w h n)[q * 2]? = some (.int .i64 (lw w q)) ∧ (lcells w h n)[q * 2 + 1]? = some (.int .i64 (lw h q))
  | n + 1, q, hq => by
    rw [lcells_succ]
    by_cases e : q = n
    · subst e
      have hl := lcells_length w h q
      rw [List.getElem?_append_right (by omega), List.getElem?_append_right (by omega), hl]
      simp
    · have hl := lcells_length w h n
      rw [List.getElem?_append_left (by omega), List.getElem?_append_left (by omega)]
      exact lcells_get w h n q (by omega)
/-- All levels' sizes. -/
def SizesOut (w h : Int) (W : World) (e : Ending) (W' : World) : Prop :=
  ∃ k cap cs, e = .returned (.slice (some ⟨k, 0, none⟩) (levs w h) cap) ∧ levs w h ≤ cap ∧ W.heap.size ≤ k ∧ Below W.heap.size W W' ∧ W'.heap[k]? = some (.cells cs 53 (0, 0)) ∧
    ∀ q, q < levs w h → cs[q * 2]? = some (.int .i64 (lw w q)) ∧ cs[q * 2 + 1]? = some (.int .i64 (lw h q))

set_option maxHeartbeats 2000000 in
set_option maxRecDepth 100000 in
theorem ref15_sizes_ok (w h : Int) (W : World) (w1 : 1 ≤ w) (w2 : w ≤ 1024) (h1 : 1 ≤ h) (h2 : h ≤ 1024) :
    Calls Try.prog 35 #[.int .i64 w, .int .i64 h] W (SizesOut w h W) := by
  have hL := levs_bd w1 w2 h1 h2
  obtain ⟨L, hLe⟩ : ∃ L, levs w h = L := ⟨_, rfl⟩
  have HL := Lib.hid hLe
  rw [hLe] at hL
  clear hLe
  go_enter Try.func35, Try.ntmps35
  go_wp2_with fail
  go_loopg [0, 1, 5] (L - 1) (fun q v0 v1 v5 wr => ∃ j : Nat, Hid (j + 1 + q = L) ∧ v0 = .int .i64 (lw w j) ∧ v1 = .int .i64 (lw h j) ∧ wr.ownsRow W.heap.size 53 2 v5 (j + 1) (lcells w h (j + 1)) ∧ Below W.heap.size W wr)
  case atStart => exact ⟨0, show 0 + 1 + (L - 1) = L by omega, by rw [lw0], by rw [lw0], by simpa [lcells, lw0] using own_box (W := W) (size := 2) (e := 53) (cs := #[.int .i64 w, .int .i64 h]) (Nat.le_refl _) rfl, below_alloc1 _ _⟩
  case round =>
    obtain ⟨j, hj, rfl, rfl, hown, hbr⟩ := hrel
    have b1 := lw_bd w1 j
    have b2 := lw_bd h1 j
    have hmore := more_levs w1 h1 j
    rw [HL.out] at hmore
    have s1 := lw_succ w j
    have s2 := lw_succ h j
    have HS := Lib.hid (And.intro s1 s2)
    clear s1 s2
    cases gk with
    | zero =>
      have hno : ¬ (1 < lw w j ∨ 1 < lw h j) := fun hc => by have := hmore.1 hc; have := hj.out; omega
      have t1 : decide (1 < lw w j) = false := decide_eq_false (fun x => hno (.inl x))
      have t2 : decide (1 < lw h j) = false := decide_eq_false (fun x => hno (.inr x))
      clear hno hmore
      go_wp2_with fail
      go_ret
      have ej : j + 1 = L := hj.out
      obtain ⟨k, cap, cs, hv, hc1, hc2, hc3, hc4⟩ := own_rowS hown (by omega)
      subst hv
      refine ⟨k, cap, cs, by rw [HL.out, ej]; rfl, by rw [HL.out, ← ej]; exact hc1, hc2, hbr, hc3, fun q hq => ?_⟩
      rw [HL.out, ← ej] at hq
      have := lcells_get w h (j + 1) q hq
      exact ⟨hc4 _ _ this.1, hc4 _ _ this.2⟩
    | succ m =>
      have hyes : 1 < lw w j ∨ 1 < lw h j := hmore.2 (by have := hj.out; omega)
      have hj' : j + 2 ≤ L := by have := hj.out; omega
      clear hmore
      have hsz := hbr.size
      by_cases hc : 1 < lw w j
      · have t1 : decide (1 < lw w j) = true := decide_eq_true hc
        go_wp2_with (at_builtin; refine append_el W.heap.size rfl (.tmp 36) (.tmp 40) 90 53 _ 2 16 rfl Try.underlying90 info_Cell rfl (by omega) _ _ _ [.int .i64 ((lw w j + 1) / 2), .int .i64 ((lw h j + 1) / 2)] rfl _ rfl rfl rfl ?_ hown hsz (by omega) (by omega) ?_)
        · first | exact ⟨rfl, rfl⟩ | (intro u hu; simp at hu; rcases hu with rfl | rfl <;> rfl)
        · intro v8 w8 hown8 hb8
          go_wp2_with fail
          go_roundg m
          case measure => omega
          case rel =>
            refine ⟨j + 1, by have := hj.out; exact (show j + 1 + 1 + m = L by omega), by rw [HS.out.1], by rw [HS.out.2], ?_, hbr.trans hb8⟩
            have e2 := lcells_succ w h (j + 1)
            rw [← HS.out.1, ← HS.out.2] at e2
            rw [e2]
            exact hown8
      · have t1 : decide (1 < lw w j) = false := decide_eq_false hc
        have hc2 : 1 < lw h j := hyes.resolve_left hc
        have t2 : decide (1 < lw h j) = true := decide_eq_true hc2
        clear hyes
        go_wp2_with (at_builtin; refine append_el W.heap.size rfl (.tmp 36) (.tmp 40) 90 53 _ 2 16 rfl Try.underlying90 info_Cell rfl (by omega) _ _ _ [.int .i64 ((lw w j + 1) / 2), .int .i64 ((lw h j + 1) / 2)] rfl _ rfl rfl rfl ?_ hown hsz (by omega) (by omega) ?_)
        · first | exact ⟨rfl, rfl⟩ | (intro u hu; simp at hu; rcases hu with rfl | rfl <;> rfl)
        · intro v8 w8 hown8 hb8
          go_wp2_with fail
          go_roundg m
          case measure => omega
          case rel =>
            refine ⟨j + 1, by have := hj.out; exact (show j + 1 + 1 + m = L by omega), by rw [HS.out.1], by rw [HS.out.2], ?_, hbr.trans hb8⟩
            have e2 := lcells_succ w h (j + 1)
            rw [← HS.out.1, ← HS.out.2] at e2
            rw [e2]
            exact hown8
end Go.Proofs.Ytfnflgcalhiamaa
/- hachureref16.At. -/
set_option linter.unusedVariables false
set_option linter.unusedSimpArgs false
namespace Go.Proofs.Ytfnflgcalhiamaa
open Go.RowKit

theorem below_undrew {B : Nat} {w W : World} (h : Below B w.drew W) : Below B w W := ⟨h.os, h.tape, h.output, h.size, h.block⟩
/-- What a cell of a level has: its range, and the code. -/
def AtIs (f : Int → Int → Int) (w h k x y a b code : Int) : Prop :=
  if 0 ≤ k ∧ k < (levs w h : Int) then (if 0 ≤ x ∧ x < lw w k.toNat ∧ 0 ≤ y ∧ y < lw h k.toNat then code = 0 ∧ Rng f w h k.toNat x y a b else code = 4 ∧ a = 0 ∧ b = 0) else code = 11 ∧ a = 0 ∧ b = 0
theorem AtIs.unique {f : Int → Int → Int} {w h k x y a b code a' b' code' : Int} (h1 : AtIs f w h k x y a b code) (h2 : AtIs f w h k x y a' b' code') : a = a' ∧ b = b' ∧ code = code' := by
  unfold AtIs at h1 h2
  by_cases hk : 0 ≤ k ∧ k < (levs w h : Int)
  · rw [if_pos hk] at h1 h2
    by_cases hp : 0 ≤ x ∧ x < lw w k.toNat ∧ 0 ≤ y ∧ y < lw h k.toNat
    · rw [if_pos hp] at h1 h2
      have := h1.2.unique h2.2
      exact ⟨this.1, this.2, by omega⟩
    · rw [if_neg hp] at h1 h2
      omega
  · rw [if_neg hk] at h1 h2
    omega
/-- An answer of that kind. -/
def AtOut (f : Int → Int → Int) (w h k x y : Int) (W : World) (e : Ending) (W' : World) : Prop :=
  ∃ a b code, e = .returned (.tuple #[.agg #[.int .i64 a, .int .i64 b], .int .i64 code]) ∧ AtIs f w h k x y a b code ∧ Below W.heap.size W W'

set_option maxHeartbeats 2000000 in
set_option maxRecDepth 100000 in
theorem at16_arg (ad : Addr) (cap0 N : Nat) (f : Int → Int → Int) (w h k x y : Int) (W : World) (w1 : 1 ≤ w) (w2 : w ≤ 1024) (h1 : 1 ≤ h) (h2 : h ≤ 1024) (hk : ¬ (0 ≤ k ∧ k < (levs w h : Int))) :
    Calls Try.prog 38 #[.agg #[.int .i64 w, .int .i64 h, .slice (some ad) N cap0], .int .i64 k, .agg #[.int .i64 x, .int .i64 y]] W (AtOut f w h k x y W) := by
  have hL := levs_bd w1 w2 h1 h2
  obtain ⟨L, hLe⟩ : ∃ L, levs w h = L := ⟨_, rfl⟩
  have HL := Lib.hid hLe
  have hk' := hk
  rw [hLe] at hk' hL
  have HK := Lib.hid hk
  clear hk hLe
  go_enter Try.func38, Try.ntmps38
  go_wp2_with fail
  have n0 := below_blk (below_alloc (below_alloc1 (W.alloc (.cells #[.int .i64 w, .int .i64 h, .slice (some ad) N cap0] 25)) (.cells #[.int .i64 x, .int .i64 y] 53)) (.cells #[.int .i64 0, .int .i64 0] 83)) (blk_new W (.cells #[.int .i64 w, .int .i64 h, .slice (some ad) N cap0] 25))
  have n1 := below_blk (below_alloc1 ((W.alloc (.cells #[.int .i64 w, .int .i64 h, .slice (some ad) N cap0] 25)).alloc (.cells #[.int .i64 x, .int .i64 y] 53)) (.cells #[.int .i64 0, .int .i64 0] 83)) (blk_new2 W (.cells #[.int .i64 w, .int .i64 h, .slice (some ad) N cap0] 25) (.cells #[.int .i64 x, .int .i64 y] 53))
  have nR := blk_new2 (W.alloc (.cells #[.int .i64 w, .int .i64 h, .slice (some ad) N cap0] 25)) (.cells #[.int .i64 x, .int .i64 y] 53) (.cells #[.int .i64 0, .int .i64 0] 83)
  rw [alloc_size] at nR
  have hB := below_alloc (below_alloc (below_alloc1 W (.cells #[.int .i64 w, .int .i64 h, .slice (some ad) N cap0] 25)) (.cells #[.int .i64 x, .int .i64 y] 53)) (.cells #[.int .i64 0, .int .i64 0] 83)
  refine (ref15_sizes_ok w h _ w1 w2 h1 h2).mono ?_
  rintro e w3 ⟨k0, capl, cs, rfl, hcap, hk0, hb, hrow, hcs⟩
  replace nR := below_blk hb nR
  replace n0 := below_blk hb n0
  replace n1 := below_blk hb n1
  replace hB := below_next hB hb
  rw [HL.out] at hcs ⊢
  clear hb hk0 hcap
  clear hcs hrow n0 n1
  have r_0 := cells_w nR 0 rfl
  have r_1 := cells_w nR 1 rfl
  have z_0 := blk_frozen nR 0
  have z_1 := blk_frozen nR 1
  by_cases hk2 : k < 0
  · have d1 := decide_eq_true hk2
    go_wp2_with fail
    refine bodyPost_ret (res_ct rfl rfl (blk_set (blk_set nR 0 _) 1 _) agg_Range rfl) rfl ?_
    refine ⟨0, 0, 11, rfl, ?_, (hB.setCell (by simp; omega) _).setCell (by simp; omega) _⟩
    unfold AtIs
    rw [if_neg HK.out]
    exact ⟨rfl, rfl, rfl⟩
  · have d1 := decide_eq_false hk2
    have d2 : decide ((L : Int) ≤ k) = true := decide_eq_true (by omega)
    go_wp2_with fail
    refine bodyPost_ret (res_ct rfl rfl (blk_set (blk_set nR 0 _) 1 _) agg_Range rfl) rfl ?_
    refine ⟨0, 0, 11, rfl, ?_, (hB.setCell (by simp; omega) _).setCell (by simp; omega) _⟩
    unfold AtIs
    rw [if_neg HK.out]
    exact ⟨rfl, rfl, rfl⟩

set_option maxHeartbeats 2000000 in
set_option maxRecDepth 100000 in
theorem at16_place (ad : Addr) (cap0 N : Nat) (f : Int → Int → Int) (w h x y : Int) (k : Nat) (W : World) (w1 : 1 ≤ w) (w2 : w ≤ 1024) (h1 : 1 ≤ h) (h2 : h ≤ 1024) (hk : k < levs w h) (hp : ¬ (0 ≤ x ∧ x < lw w k ∧ 0 ≤ y ∧ y < lw h k)) :
    Calls Try.prog 38 #[.agg #[.int .i64 w, .int .i64 h, .slice (some ad) N cap0], .int .i64 k, .agg #[.int .i64 x, .int .i64 y]] W (AtOut f w h k x y W) := by
  have HP := Lib.hid hp
  clear hp
  have hL := levs_bd w1 w2 h1 h2
  obtain ⟨L, hLe⟩ : ∃ L, levs w h = L := ⟨_, rfl⟩
  have HL := Lib.hid hLe
  have hk' := hk
  rw [hLe] at hk' hL
  have HK := Lib.hid hk
  clear hk hLe
  go_enter Try.func38, Try.ntmps38
  go_wp2_with fail
  have n0 := below_blk (below_alloc (below_alloc1 (W.alloc (.cells #[.int .i64 w, .int .i64 h, .slice (some ad) N cap0] 25)) (.cells #[.int .i64 x, .int .i64 y] 53)) (.cells #[.int .i64 0, .int .i64 0] 83)) (blk_new W (.cells #[.int .i64 w, .int .i64 h, .slice (some ad) N cap0] 25))
  have n1 := below_blk (below_alloc1 ((W.alloc (.cells #[.int .i64 w, .int .i64 h, .slice (some ad) N cap0] 25)).alloc (.cells #[.int .i64 x, .int .i64 y] 53)) (.cells #[.int .i64 0, .int .i64 0] 83)) (blk_new2 W (.cells #[.int .i64 w, .int .i64 h, .slice (some ad) N cap0] 25) (.cells #[.int .i64 x, .int .i64 y] 53))
  have nR := blk_new2 (W.alloc (.cells #[.int .i64 w, .int .i64 h, .slice (some ad) N cap0] 25)) (.cells #[.int .i64 x, .int .i64 y] 53) (.cells #[.int .i64 0, .int .i64 0] 83)
  rw [alloc_size] at nR
  have hB := below_alloc (below_alloc (below_alloc1 W (.cells #[.int .i64 w, .int .i64 h, .slice (some ad) N cap0] 25)) (.cells #[.int .i64 x, .int .i64 y] 53)) (.cells #[.int .i64 0, .int .i64 0] 83)
  refine (ref15_sizes_ok w h _ w1 w2 h1 h2).mono ?_
  rintro e w3 ⟨k0, capl, cs, rfl, hcap, hk0, hb, hrow, hcs⟩
  replace nR := below_blk hb nR
  replace n0 := below_blk hb n0
  replace n1 := below_blk hb n1
  replace hB := below_next hB hb
  rw [HL.out] at hcs ⊢
  clear hb hk0 hcap
  have d1 : decide (L ≤ k) = false := decide_eq_false (by omega)
  go_wp2_with fail
  have c0 := (blk_cell hrow (k * 2)).trans (hcs k hk').1
  have c1 := (blk_cell hrow (k * 2 + 1)).trans (hcs k hk').2
  have q0 := fun d os => cell_regrown c0 d os
  have q1 := fun d os => cell_regrown c1 d os
  clear n0 hcs c0 c1
  have p_0 := cells_q n1 0 rfl
  have p_1 := cells_q n1 1 rfl
  by_cases hx : x < 0
  · have t1 := decide_eq_true hx
    refine wp_quiet (by kernel_rfl) (by kernel_rfl) ?_
    repeat (go_big_quiet_step ((first | fail)))
    refine wpQuiet_nil ?_
    intro w4 hb4
    clear q0 q1 p_0 p_1
    have nR4 := below_blk hb4 nR
    have hB4 := below_next hB hb4
    clear hB hb4 nR
    have r_0 := cells_w nR4 0 rfl
    have r_1 := cells_w nR4 1 rfl
    have z_0 := blk_frozen nR4 0
    have z_1 := blk_frozen nR4 1
    go_wp2_with fail
    refine bodyPost_ret (res_ct rfl rfl (blk_set (blk_set nR4 0 _) 1 _) agg_Range rfl) rfl ?_
    refine ⟨0, 0, 4, rfl, ?_, (hB4.setCell (by simp; omega) _).setCell (by simp; omega) _⟩
    unfold AtIs
    rw [if_pos ⟨by omega, by have := HK.out; omega⟩, if_neg (by rw [Int.toNat_natCast]; exact HP.out)]
    exact ⟨rfl, rfl, rfl⟩
  have t1 := decide_eq_false hx
  by_cases hy : y < 0
  · have t2 := decide_eq_true hy
    refine wp_quiet (by kernel_rfl) (by kernel_rfl) ?_
    repeat (go_big_quiet_step ((first | fail)))
    refine wpQuiet_nil ?_
    intro w4 hb4
    clear q0 q1 p_0 p_1
    have nR4 := below_blk hb4 nR
    have hB4 := below_next hB hb4
    clear hB hb4 nR
    have r_0 := cells_w nR4 0 rfl
    have r_1 := cells_w nR4 1 rfl
    have z_0 := blk_frozen nR4 0
    have z_1 := blk_frozen nR4 1
    go_wp2_with fail
    refine bodyPost_ret (res_ct rfl rfl (blk_set (blk_set nR4 0 _) 1 _) agg_Range rfl) rfl ?_
    refine ⟨0, 0, 4, rfl, ?_, (hB4.setCell (by simp; omega) _).setCell (by simp; omega) _⟩
    unfold AtIs
    rw [if_pos ⟨by omega, by have := HK.out; omega⟩, if_neg (by rw [Int.toNat_natCast]; exact HP.out)]
    exact ⟨rfl, rfl, rfl⟩
  have t2 := decide_eq_false hy
  by_cases hx2 : lw w k ≤ x
  · have t3 := decide_eq_true hx2
    refine wp_quiet (by kernel_rfl) (by kernel_rfl) ?_
    repeat (go_big_quiet_step ((first | fail)))
    refine wpQuiet_nil ?_
    intro w4 hb4
    clear q0 q1 p_0 p_1
    have nR4 := below_blk hb4 nR
    have hB4 := below_next hB hb4
    clear hB hb4 nR
    have r_0 := cells_w nR4 0 rfl
    have r_1 := cells_w nR4 1 rfl
    have z_0 := blk_frozen nR4 0
    have z_1 := blk_frozen nR4 1
    go_wp2_with fail
    refine bodyPost_ret (res_ct rfl rfl (blk_set (blk_set nR4 0 _) 1 _) agg_Range rfl) rfl ?_
    refine ⟨0, 0, 4, rfl, ?_, (hB4.setCell (by simp; omega) _).setCell (by simp; omega) _⟩
    unfold AtIs
    rw [if_pos ⟨by omega, by have := HK.out; omega⟩, if_neg (by rw [Int.toNat_natCast]; exact HP.out)]
    exact ⟨rfl, rfl, rfl⟩
  have t3 := decide_eq_false hx2
  have t4 : decide (lw h k ≤ y) = true := decide_eq_true (by have := HP.out; omega)
  refine wp_quiet (by kernel_rfl) (by kernel_rfl) ?_
  repeat (go_big_quiet_step ((first | fail)))
  refine wpQuiet_nil ?_
  intro w4 hb4
  clear q0 q1 p_0 p_1
  have nR4 := below_blk hb4 nR
  have hB4 := below_next hB hb4
  clear hB hb4 nR
  have r_0 := cells_w nR4 0 rfl
  have r_1 := cells_w nR4 1 rfl
  have z_0 := blk_frozen nR4 0
  have z_1 := blk_frozen nR4 1
  go_wp2_with fail
  refine bodyPost_ret (res_ct rfl rfl (blk_set (blk_set nR4 0 _) 1 _) agg_Range rfl) rfl ?_
  refine ⟨0, 0, 4, rfl, ?_, (hB4.setCell (by simp; omega) _).setCell (by simp; omega) _⟩
  unfold AtIs
  rw [if_pos ⟨by omega, by have := HK.out; omega⟩, if_neg (by rw [Int.toNat_natCast]; exact HP.out)]
  exact ⟨rfl, rfl, rfl⟩

set_option maxHeartbeats 2000000 in
set_option maxRecDepth 100000 in
theorem at16_ok (ad : Addr) (cap0 N : Nat) (u : Nat → Int) (w h x y : Int) (k : Nat) (W : World) (w1 : 1 ≤ w) (w2 : w ≤ 1024) (h1 : 1 ≤ h) (h2 : h ≤ 1024) (hN : (N : Int) = w * h) (hRow : RowAt W ad N u) (hk : k < levs w h) (a1 : 0 ≤ x) (a2 : x < lw w k) (a3 : 0 ≤ y) (a4 : y < lw h k) :
    Calls Try.prog 38 #[.agg #[.int .i64 w, .int .i64 h, .slice (some ad) N cap0], .int .i64 k, .agg #[.int .i64 x, .int .i64 y]] W (AtOut (fun x y => u ((y * w + x).toNat)) w h k x y W) := by
  have HN := Lib.hid hN
  have HRow := Lib.hid hRow
  have b1 := span_bd a1 a2
  have b2 := span_bd a3 a4
  have bp := pow_bd (k := k) (by have := (levs_bd w1 w2 h1 h2).2; omega)
  have hX := Int.add_mul x 1 (2 ^ k)
  have hY := Int.add_mul y 1 (2 ^ k)
  rw [Int.one_mul] at hX hY
  obtain ⟨X0, hX0⟩ : ∃ X0, x * 2 ^ k = X0 := ⟨_, rfl⟩
  obtain ⟨Y0, hY0⟩ : ∃ Y0, y * 2 ^ k = Y0 := ⟨_, rfl⟩
  obtain ⟨X1, hX1⟩ : ∃ X1, imin ((x + 1) * 2 ^ k - 1) (w - 1) = X1 := ⟨_, rfl⟩
  obtain ⟨Y1, hY1⟩ : ∃ Y1, imin ((y + 1) * 2 ^ k - 1) (h - 1) = Y1 := ⟨_, rfl⟩
  have bX : 0 ≤ X0 ∧ X0 ≤ X1 ∧ X1 < w := by rw [← hX0, ← hX1]; unfold imin; split <;> omega
  have bY : 0 ≤ Y0 ∧ Y0 ≤ Y1 ∧ Y1 < h := by rw [← hY0, ← hY1]; unfold imin; split <;> omega
  have hsp : ∀ u v, span w h k x y u v ↔ X0 ≤ u ∧ u ≤ X1 ∧ Y0 ≤ v ∧ v ≤ Y1 := fun u v => by rw [span_rect a1 a3, hX0, hX1, hY0, hY1]
  have HSP := Lib.hid hsp
  have HE := Lib.hid (And.intro hX0 (And.intro hY0 (And.intro hX1 hY1)))
  obtain ⟨rw, hrw⟩ : ∃ rw : Nat, (rw : Int) = X1 - X0 + 1 := ⟨(X1 - X0 + 1).toNat, by omega⟩
  obtain ⟨rh, hrh⟩ : ∃ rh : Nat, (rh : Int) = Y1 - Y0 + 1 := ⟨(Y1 - Y0 + 1).toNat, by omega⟩
  have Hrw := Lib.hid hrw
  have Hrh := Lib.hid hrh
  have hrw1 : 1 ≤ rw := by omega
  have hrh1 : 1 ≤ rh := by omega
  have hm := Nat.mul_le_mul (show rw ≤ 1024 by omega) (show rh ≤ 1024 by omega)
  have hm1 := Nat.mul_le_mul hrw1 hrh1
  clear b1 b2 bp hX hY hX0 hY0 hX1 hY1 hsp hrw hrh hN hRow
  have HA := Lib.hid (And.intro a1 (And.intro a2 (And.intro a3 a4)))
  have hL := levs_bd w1 w2 h1 h2
  obtain ⟨L, hLe⟩ : ∃ L, levs w h = L := ⟨_, rfl⟩
  have HL := Lib.hid hLe
  have hk' := hk
  rw [hLe] at hk' hL
  have HK := Lib.hid hk
  clear hk hLe
  go_enter Try.func38, Try.ntmps38
  go_wp2_with fail
  have n0 := below_blk (below_alloc (below_alloc1 (W.alloc (.cells #[.int .i64 w, .int .i64 h, .slice (some ad) N cap0] 25)) (.cells #[.int .i64 x, .int .i64 y] 53)) (.cells #[.int .i64 0, .int .i64 0] 83)) (blk_new W (.cells #[.int .i64 w, .int .i64 h, .slice (some ad) N cap0] 25))
  have n1 := below_blk (below_alloc1 ((W.alloc (.cells #[.int .i64 w, .int .i64 h, .slice (some ad) N cap0] 25)).alloc (.cells #[.int .i64 x, .int .i64 y] 53)) (.cells #[.int .i64 0, .int .i64 0] 83)) (blk_new2 W (.cells #[.int .i64 w, .int .i64 h, .slice (some ad) N cap0] 25) (.cells #[.int .i64 x, .int .i64 y] 53))
  have nR := blk_new2 (W.alloc (.cells #[.int .i64 w, .int .i64 h, .slice (some ad) N cap0] 25)) (.cells #[.int .i64 x, .int .i64 y] 53) (.cells #[.int .i64 0, .int .i64 0] 83)
  rw [alloc_size] at nR
  have hB := below_alloc (below_alloc (below_alloc1 W (.cells #[.int .i64 w, .int .i64 h, .slice (some ad) N cap0] 25)) (.cells #[.int .i64 x, .int .i64 y] 53)) (.cells #[.int .i64 0, .int .i64 0] 83)
  refine (ref15_sizes_ok w h _ w1 w2 h1 h2).mono ?_
  rintro e w3 ⟨k0, capl, cs, rfl, hcap, hk0, hb, hrow, hcs⟩
  replace nR := below_blk hb nR
  replace n0 := below_blk hb n0
  replace n1 := below_blk hb n1
  replace hB := below_next hB hb
  rw [HL.out] at hcs ⊢
  clear hb hk0 hcap
  have hrowW := HRow.out.below hB
  have HrowW := Lib.hid hrowW
  clear hrowW
  have d1 : decide (L ≤ k) = false := decide_eq_false (by omega)
  go_wp2_with fail
  have c0 := (blk_cell hrow (k * 2)).trans (hcs k hk').1
  have c1 := (blk_cell hrow (k * 2 + 1)).trans (hcs k hk').2
  have q0 := fun d os => cell_regrown c0 d os
  have q1 := fun d os => cell_regrown c1 d os
  clear hcs c0 c1 hrow
  have p_0 := cells_q n1 0 rfl
  have p_1 := cells_q n1 1 rfl
  have t1 : decide (x < 0) = false := decide_eq_false (by omega)
  have t2 : decide (y < 0) = false := decide_eq_false (by omega)
  have t3 : decide (lw w k ≤ x) = false := decide_eq_false (by omega)
  have t4 : decide (lw h k ≤ y) = false := decide_eq_false (by omega)
  refine wp_quiet (by kernel_rfl) (by kernel_rfl) ?_
  repeat (go_big_quiet_step ((first | fail)))
  refine wpQuiet_nil ?_
  intro w4 hb4
  clear q0 q1 p_0 p_1 t1 t2 t3 t4 a1 a2 a3 a4
  replace nR := below_blk hb4 nR
  replace n0 := below_blk hb4 n0
  replace n1 := below_blk hb4 n1
  replace hB := below_next hB hb4
  have HrowX := Lib.hid (HrowW.out.below hb4)
  clear hb4 HrowW
  go_wp2_with fail
  have hBX := Lib.hid hB
  have p0 := cells_w n1 0 rfl
  have p1 := cells_w n1 1 rfl
  have o0 := cells_w n0 0 rfl
  have o1 := cells_w n0 1 rfl
  have o2 := cells_w n0 2 rfl
  have hkeep : ∀ w', Below w4.heap.size w4 w' → (Below w4.heap.size w4 w' ∧ w'.cell? ⟨W.heap.size + 1, 0, none⟩ = some (.int .i64 x) ∧ w'.cell? ⟨W.heap.size + 1, 1, none⟩ = some (.int .i64 y) ∧ w'.cell? ⟨W.heap.size, 0, none⟩ = some (.int .i64 w) ∧ w'.cell? ⟨W.heap.size, 1, none⟩ = some (.int .i64 h) ∧ w'.cell? ⟨W.heap.size, 2, none⟩ = some (.slice (some ad) N cap0)) :=
    fun w' hb => ⟨hb, below_cell hb p0, below_cell hb p1, below_cell hb o0, below_cell hb o1, below_cell hb o2⟩
  have HKP := Lib.hid hkeep
  have HnR := Lib.hid nR
  clear p0 p1 o0 o1 o2 hkeep n0 n1 hB nR
  go_region_held3 (fun w' => Below w4.heap.size w4 w' ∧ w'.cell? ⟨W.heap.size + 1, 0, none⟩ = some (.int .i64 x) ∧ w'.cell? ⟨W.heap.size + 1, 1, none⟩ = some (.int .i64 y) ∧ w'.cell? ⟨W.heap.size, 0, none⟩ = some (.int .i64 w) ∧ w'.cell? ⟨W.heap.size, 1, none⟩ = some (.int .i64 h) ∧ w'.cell? ⟨W.heap.size, 2, none⟩ = some (.slice (some ad) N cap0))
    (first | (refine HKP.out _ ?_; first | exact below_drew1 (Below.refl _ _) | assumption))
    (first | (go_at_call 60; refine (ref16_Span_ok w h x y k _ _ w1 w2 h1 h2 (by omega) HA.out.1 HA.out.2.1 HA.out.2.2.1 HA.out.2.2.2 ⟨_, _, _, rfl⟩).mono ?_; rw [HE.out.1, HE.out.2.1, HE.out.2.2.1, HE.out.2.2.2]; rintro e w5 ⟨rfl, hb5⟩; have hbx : Below w4.heap.size w4 w5 := below_undrew hb5) | (go_at_call 59; refine (ref09_Values_ok ad cap0 N u w h X0 Y0 X1 Y1 w5 w1 w2 h1 h2 HN.out (HrowX.out.below hbx) bX.1 bX.2.1 bX.2.2 bY.1 bY.2.1 bY.2.2 rw rh Hrw.out Hrh.out).mono ?_; rintro e w6 ⟨k6, cap6, cs6, rfl, hcap6, hk6, hb6, hrow6, hcs6⟩; have hby := below_next hbx hb6))
  have nR6 := below_blk hby HnR.out
  have hB6 := below_next hBX.out hby
  have hrowN := RowAt.of_blk hrow6 hcs6
  clear hcs6 hrow6 hb6 hby hb5 hbx hBX HnR
  go_wp2_with fail
  refine (ref08_Range_ok ⟨k6, 0, none⟩ (rw * rh) cap6 _ w6 (by omega) (by omega) hrowN).mono ?_
  rintro e w7 ⟨ra, rb, rfl, hr, hb7⟩
  have nR7 := below_blk hb7 nR6
  have hB7 := below_next hB6 hb7
  clear hb7 hrowN hB6 nR6
  have r_0 := cells_w nR7 0 rfl
  have r_1 := cells_w nR7 1 rfl
  have z_0 := blk_frozen nR7 0
  have z_1 := blk_frozen nR7 1
  go_wp2_with fail
  refine bodyPost_ret (res_ct rfl rfl (blk_set (blk_set nR7 0 _) 1 _) agg_Range rfl) rfl ?_
  refine ⟨ra, rb, 0, rfl, ?_, (hB7.setCell (by simp; omega) _).setCell (by simp; omega) _⟩
  unfold AtIs
  rw [if_pos ⟨by omega, by have := HK.out; omega⟩, if_pos (by rw [Int.toNat_natCast]; exact HA.out), Int.toNat_natCast]
  exact ⟨rfl, (rngL_rect Hrw.out Hrh.out hr).iff HSP.out⟩

theorem at16_any (ad : Addr) (cap0 N : Nat) (u : Nat → Int) (w h k x y : Int) (W : World) (w1 : 1 ≤ w) (w2 : w ≤ 1024) (h1 : 1 ≤ h) (h2 : h ≤ 1024) (hN : (N : Int) = w * h) (hRow : RowAt W ad N u) :
    Calls Try.prog 38 #[.agg #[.int .i64 w, .int .i64 h, .slice (some ad) N cap0], .int .i64 k, .agg #[.int .i64 x, .int .i64 y]] W (AtOut (fun x y => u ((y * w + x).toNat)) w h k x y W) := by
  by_cases hk : 0 ≤ k ∧ k < (levs w h : Int)
  · obtain ⟨m, rfl⟩ : ∃ m : Nat, k = m := ⟨k.toNat, by omega⟩
    by_cases hp : 0 ≤ x ∧ x < lw w m ∧ 0 ≤ y ∧ y < lw h m
    · exact at16_ok ad cap0 N u w h x y m W w1 w2 h1 h2 hN hRow (by omega) hp.1 hp.2.1 hp.2.2.1 hp.2.2.2
    · exact at16_place ad cap0 N _ w h x y m W w1 w2 h1 h2 (by omega) hp
  · exact at16_arg ad cap0 N _ w h k x y W w1 w2 h1 h2 hk
end Go.Proofs.Ytfnflgcalhiamaa
/- math/bits.Len64, of what is below 1024. -/
set_option linter.unusedVariables false
set_option linter.unusedSimpArgs false
namespace Go.Proofs.Ytfnflgcalhiamaa
open Go.RowKit

set_option maxHeartbeats 2000000 in
set_option maxRecDepth 100000 in
theorem len64_ok (n : Nat) (hn : n < 1024) (W : World) :
    Calls Try.prog 46 #[.int .u64 n] W fun e W' => e = .returned (.int .i64 (bl n)) ∧ W = W' := by
  have d1 : decide ((4294967296 : Int) ≤ n) = false := decide_eq_false (by omega)
  have d2 : decide ((65536 : Int) ≤ n) = false := decide_eq_false (by omega)
  by_cases h : n < 256
  · have d3 : decide ((256 : Int) ≤ n) = false := decide_eq_false (by omega)
    go_enter Try.func46, Try.ntmps46
    go_wp2_with fail
    go_ret
    refine ⟨ret_int ?_, rfl⟩
    clear d1 d2 d3 hn
    revert n
    decide +kernel
  · have d3 : decide ((256 : Int) ≤ n) = true := decide_eq_true (by omega)
    go_enter Try.func46, Try.ntmps46
    go_wp2_with fail
    go_ret
    refine ⟨ret_int ?_, rfl⟩
    clear d1 d2 d3
    revert n
    decide +kernel
#print axioms len64_ok
end Go.Proofs.Ytfnflgcalhiamaa
/- tier.half, Levels, Size, of a right size. -/
set_option linter.unusedVariables false
set_option linter.unusedSimpArgs false
namespace Go.Proofs.Ytfnflgcalhiamaa
open Go.RowKit

set_option maxHeartbeats 2000000 in
theorem half_ok (n : Int) (k : Nat) (W : World) (n1 : 1 ≤ n) (n2 : n ≤ 1024) (hk : k ≤ 10) :
    Calls Try.prog 47 #[.int .i64 n, .int .i64 k] W fun e W' => e = .returned (.int .i64 (lw n k)) ∧ W = W' := by
  go_enter Try.func47, Try.ntmps47
  go_wp2_with fail
  go_ret
  refine ⟨ret_int ?_, rfl⟩
  have hb := lw_bd n1 k
  unfold lw at hb ⊢
  exact wrap64_id (by omega) (by omega)

set_option maxHeartbeats 2000000 in
theorem levels_ok (w h : Int) (W : World) (w1 : 1 ≤ w) (w2 : w ≤ 1024) (h1 : 1 ≤ h) (h2 : h ≤ 1024) :
    Calls Try.prog 21 #[.int .i64 w, .int .i64 h] W fun e W' => e = .returned (.tuple #[.int .i64 (levs w h), .int .i64 0]) ∧ Below W.heap.size W W' := by
  obtain ⟨m, hm⟩ : ∃ m : Nat, imax w h - 1 = m := ⟨(imax w h - 1).toNat, by unfold imax; split <;> omega⟩
  have hm2 : m < 1024 := by unfold imax at hm; split at hm <;> omega
  have hmax : imax w h = (m : Int) + 1 := by omega
  have hlev : levs w h = bl m + 1 := by unfold levs; rw [hm]; rfl
  have HLV := Lib.hid hlev
  have hbl := levs_bd w1 w2 h1 h2
  have hbl2 : bl m ≤ 10 := by omega
  clear hm hlev hbl
  go_enter Try.func21, Try.ntmps21
  go_wp2_with fail
  refine (within_ok 0 0 0 0 w h _ w1 w2 h1 h2 (by omega) (by omega) (by omega) (by omega) (by omega) (by omega)).mono ?_
  rintro e w2' ⟨rfl, hb⟩
  go_wp2_with fail
  refine (len64_ok m hm2 _).mono ?_
  rintro e w3 ⟨rfl, rfl⟩
  go_wp2_with fail
  go_ret2
  exact ⟨by rw [HLV.out]; exact ret2_int (by push_cast; omega), hb⟩

set_option maxHeartbeats 2000000 in
theorem tier_size_ok (w h : Int) (k : Nat) (W : World) (w1 : 1 ≤ w) (w2 : w ≤ 1024) (h1 : 1 ≤ h) (h2 : h ≤ 1024) (hk : k < levs w h) :
    Calls Try.prog 22 #[.int .i64 w, .int .i64 h, .int .i64 k] W fun e W' => e = .returned (.tuple #[.int .i64 (lw w k), .int .i64 (lw h k), .int .i64 0]) ∧ Below W.heap.size W W' := by
  have hL := levs_bd w1 w2 h1 h2
  have hk10 : k ≤ 10 := by omega
  go_enter Try.func22, Try.ntmps22
  go_wp2_with fail
  refine (levels_ok w h _ w1 w2 h1 h2).mono ?_
  rintro e w3 ⟨rfl, hb⟩
  have d1 : decide (levs w h ≤ k) = false := decide_eq_false (by omega)
  go_wp2_with (go_at_call 47; refine (half_ok _ k _ (by omega) (by omega) hk10).mono ?_; rintro e w' ⟨rfl, rfl⟩)
  refine bodyPost_ret (results_tmp3 rfl _ _ _) rfl ?_
  exact ⟨rfl, hb⟩
end Go.Proofs.Ytfnflgcalhiamaa

/- Texts of this claim, joined: FndRep, Where38. -/
import Derived.Test.YtfnflgcalhiamaaPackSz13
import Derived.Test.YtfnflgcalhiamaaPackSz17
/- A list of findings as three rows of numbers. -/
set_option linter.unusedVariables false
set_option linter.unusedSimpArgs false
namespace Go.Proofs.Ytfnflgcalhiamaa

def Rep (xs : List Value) (n : Nat) (K X Y : Nat → Int) : Prop :=
  xs.length = n * 3 ∧ ∀ i, i < n → xs[i * 3]? = some (.int .i64 (K i)) ∧ xs[i * 3 + 1]? = some (.int .i64 (X i)) ∧ xs[i * 3 + 2]? = some (.int .i64 (Y i))
def upd (K : Nat → Int) (n : Nat) (k : Int) : Nat → Int := fun i => if i = n then k else K i
theorem upd_at {K : Nat → Int} {n : Nat} {k : Int} : upd K n k n = k := if_pos rfl
theorem upd_ne {K : Nat → Int} {n i : Nat} {k : Int} (h : i ≠ n) : upd K n k i = K i := if_neg h
theorem rep_snoc {xs : List Value} {n : Nat} {K X Y : Nat → Int} (H : Rep xs n K X Y) (k x y : Int) : Rep (xs ++ [.int .i64 k, .int .i64 x, .int .i64 y]) (n + 1) (upd K n k) (upd X n x) (upd Y n y) := by
  obtain ⟨h1, h2⟩ := H
  refine ⟨by simp [h1]; omega, fun i hi => ?_⟩
  by_cases e : i = n
  · subst e
    rw [upd_at, upd_at, upd_at]
    refine ⟨?_, ?_, ?_⟩
    · rw [List.getElem?_append_right (by omega), h1]; simp
    · rw [List.getElem?_append_right (by omega), h1, show i * 3 + 1 - i * 3 = 1 by omega]; rfl
    · rw [List.getElem?_append_right (by omega), h1, show i * 3 + 2 - i * 3 = 2 by omega]; rfl
  · rw [upd_ne e, upd_ne e, upd_ne e]
    obtain ⟨a, b, c⟩ := h2 i (by omega)
    refine ⟨?_, ?_, ?_⟩
    · rw [List.getElem?_append_left (by omega)]; exact a
    · rw [List.getElem?_append_left (by omega)]; exact b
    · rw [List.getElem?_append_left (by omega)]; exact c
/-- What the entries behind n0 are. -/
def RepIs (k : Int) (d : Nat → Bool) (w n0 n j : Nat) (K X Y : Nat → Int) : Prop :=
  (∀ i, n0 ≤ i → i < n → ∃ c, c < j ∧ d c = true ∧ K i = k ∧ X i = ((c % w : Nat) : Int) ∧ Y i = ((c / w : Nat) : Int)) ∧
  (∀ c, c < j → d c = true → ∃ i, n0 ≤ i ∧ i < n ∧ K i = k ∧ X i = ((c % w : Nat) : Int) ∧ Y i = ((c / w : Nat) : Int))
theorem fnd_rep {xs : List Value} {n0 : Nat} {K0 X0 Y0 : Nat → Int} (H : Rep xs n0 K0 X0 Y0) (k : Int) (d : Nat → Bool) (w : Nat) : ∀ j, ∃ K X Y, Rep (xs ++ fnd k d w j) (n0 + cnt d j) K X Y ∧ (∀ i, i < n0 → K i = K0 i ∧ X i = X0 i ∧ Y i = Y0 i) ∧ RepIs k d w n0 (n0 + cnt d j) j K X Y
  | 0 => ⟨K0, X0, Y0, by simpa [fnd, cnt] using H, fun i hi => ⟨rfl, rfl, rfl⟩, fun i h1 h2 => (by simp [cnt] at h2; omega), fun c hc => by omega⟩
  | j + 1 => by
    obtain ⟨K, X, Y, h1, h2, h3, h4⟩ := fnd_rep H k d w j
    cases hd : d j with
    | true =>
      rw [fnd_yes hd, cnt_yes hd]
      refine ⟨upd K (n0 + cnt d j) k, upd X (n0 + cnt d j) ((j % w : Nat) : Int), upd Y (n0 + cnt d j) ((j / w : Nat) : Int), ?_, ?_, ?_, ?_⟩
      · rw [← List.append_assoc, ← Nat.add_assoc]
        exact rep_snoc h1 _ _ _
      · intro i hi
        rw [upd_ne (by omega), upd_ne (by omega), upd_ne (by omega)]
        exact h2 i hi
      · intro i a1 a2
        by_cases e : i = n0 + cnt d j
        · subst e
          exact ⟨j, by omega, hd, upd_at, upd_at, upd_at⟩
        · rw [upd_ne e, upd_ne e, upd_ne e]
          obtain ⟨c, c1, c2⟩ := h3 i a1 (by omega)
          exact ⟨c, by omega, c2⟩
      · intro c hc hdc
        by_cases e : c = j
        · subst e
          exact ⟨n0 + cnt d c, by omega, by omega, upd_at, upd_at, upd_at⟩
        · obtain ⟨i, b1, b2, b3⟩ := h4 c (by omega) hdc
          refine ⟨i, b1, by omega, ?_⟩
          rw [upd_ne (by omega), upd_ne (by omega), upd_ne (by omega)]
          exact b3
    | false =>
      rw [fnd_no hd, cnt_no hd]
      refine ⟨K, X, Y, h1, h2, fun i a1 a2 => ?_, fun c hc hdc => ?_⟩
      · obtain ⟨c, c1, c2⟩ := h3 i a1 a2
        exact ⟨c, by omega, c2⟩
      · by_cases e : c = j
        · subst e; rw [hd] at hdc; cases hdc
        · exact h4 c (by omega) hdc
theorem rep_nil (K X Y : Nat → Int) : Rep [] 0 K X Y := ⟨rfl, fun i hi => by omega⟩
/-- Both lists, one behind the other. -/
theorem fnd_both (d1 d2 : Nat → Bool) (w j : Nat) : ∃ K X Y, Rep (fnd 1 d1 w j ++ fnd 2 d2 w j) (cnt d1 j + cnt d2 j) K X Y ∧
    (∀ i, i < cnt d1 j + cnt d2 j → ∃ c, c < j ∧ X i = ((c % w : Nat) : Int) ∧ Y i = ((c / w : Nat) : Int)) ∧
    (∀ c, c < j → d1 c = true → ∃ i, i < cnt d1 j + cnt d2 j ∧ K i = 1 ∧ X i = ((c % w : Nat) : Int) ∧ Y i = ((c / w : Nat) : Int)) ∧
    (∀ c, c < j → d2 c = true → ∃ i, i < cnt d1 j + cnt d2 j ∧ K i = 2 ∧ X i = ((c % w : Nat) : Int) ∧ Y i = ((c / w : Nat) : Int)) := by
  obtain ⟨K1, X1, Y1, h1, _, h2, h3⟩ := fnd_rep (rep_nil (fun _ => 0) (fun _ => 0) (fun _ => 0)) 1 d1 w j
  rw [List.nil_append, Nat.zero_add] at h1
  rw [Nat.zero_add] at h2 h3
  obtain ⟨K, X, Y, k1, k2, k3, k4⟩ := fnd_rep h1 2 d2 w j
  refine ⟨K, X, Y, k1, fun i hi => ?_, fun c hc hd => ?_, fun c hc hd => ?_⟩
  · by_cases e : i < cnt d1 j
    · obtain ⟨c, c1, _, _, c2, c3⟩ := h2 i (by omega) e
      obtain ⟨_, e1, e2⟩ := k2 i e
      exact ⟨c, c1, by rw [e1, c2], by rw [e2, c3]⟩
    · obtain ⟨c, c1, _, _, c2, c3⟩ := k3 i (by omega) hi
      exact ⟨c, c1, c2, c3⟩
  · obtain ⟨i, _, b1, b2, b3, b4⟩ := h3 c hc hd
    obtain ⟨e0, e1, e2⟩ := k2 i b1
    exact ⟨i, by omega, by rw [e0, b2], by rw [e1, b3], by rw [e2, b4]⟩
  · obtain ⟨i, _, b1, b2, b3, b4⟩ := k4 c hc hd
    exact ⟨i, b1, b2, b3, b4⟩

/-- The fen's land behind j findings. -/
def healF (f1 f3 : Int → Int → Int) (K X Y : Nat → Int) : Nat → Int → Int → Int
  | 0 => f3
  | j + 1 => if K j = 2 then (fun x y => if x = X j ∧ y = Y j then f1 x y else healF f1 f3 K X Y j x y) else healF f1 f3 K X Y j
theorem healF_is (f1 f3 : Int → Int → Int) (K X Y : Nat → Int) (x y : Int) : ∀ j, healF f1 f3 K X Y j x y = f1 x y ∨ (healF f1 f3 K X Y j x y = f3 x y ∧ ∀ i, i < j → ¬ (K i = 2 ∧ X i = x ∧ Y i = y))
  | 0 => .inr ⟨rfl, fun i hi => by omega⟩
  | j + 1 => by
    show (if K j = 2 then (fun x y => if x = X j ∧ y = Y j then f1 x y else healF f1 f3 K X Y j x y) else healF f1 f3 K X Y j) x y = _ ∨ ((if K j = 2 then (fun x y => if x = X j ∧ y = Y j then f1 x y else healF f1 f3 K X Y j x y) else healF f1 f3 K X Y j) x y = _ ∧ _)
    have ih := healF_is f1 f3 K X Y x y j
    by_cases hk : K j = 2
    · rw [if_pos hk]
      by_cases e : x = X j ∧ y = Y j
      · exact .inl (if_pos e)
      · show (if x = X j ∧ y = Y j then f1 x y else healF f1 f3 K X Y j x y) = _ ∨ ((if x = X j ∧ y = Y j then f1 x y else healF f1 f3 K X Y j x y) = _ ∧ _)
        rw [if_neg e]
        refine ih.imp id (fun z => ⟨z.1, fun i hi => ?_⟩)
        by_cases e2 : i = j
        · subst e2; exact fun z => e ⟨z.2.1.symm, z.2.2.symm⟩
        · exact z.2 i (by omega)
    · rw [if_neg hk]
      refine ih.imp id (fun z => ⟨z.1, fun i hi => ?_⟩)
      by_cases e2 : i = j
      · subst e2; exact fun z => hk z.1
      · exact z.2 i (by omega)
theorem heal_bump {f1 f3 : Int → Int → Int} {K X Y : Nat → Int} {j x y : Nat} (hk : K j = 2) (hx : X j = x) (hy : Y j = y) : bump (healF f1 f3 K X Y j) x y (f1 x y - healF f1 f3 K X Y j x y) = healF f1 f3 K X Y (j + 1) := by
  funext a b
  show _ = (if K j = 2 then (fun x y => if x = X j ∧ y = Y j then f1 x y else healF f1 f3 K X Y j x y) else healF f1 f3 K X Y j) a b
  rw [if_pos hk, hx, hy]
  unfold bump
  show (if a = (x : Int) ∧ b = (y : Int) then _ else _) = (if a = (x : Int) ∧ b = (y : Int) then f1 a b else _)
  by_cases e : a = (x : Int) ∧ b = (y : Int)
  · rw [if_pos e, if_pos e, e.1, e.2]; omega
  · rw [if_neg e, if_neg e]
theorem heal_same {f1 f3 : Int → Int → Int} {K X Y : Nat → Int} {j : Nat} (hk : K j ≠ 2) : healF f1 f3 K X Y (j + 1) = healF f1 f3 K X Y j := if_neg hk
end Go.Proofs.Ytfnflgcalhiamaa
/- rect.Hull, audit.Where. -/
set_option linter.unusedVariables false
set_option linter.unusedSimpArgs false
namespace Go.Proofs.Ytfnflgcalhiamaa
open Go.RowKit

theorem hull_first (x0 y0 x1 y1 : Int) (W : World) (h : 0 ≤ x0 ∧ x0 ≤ x1 ∧ x1 < 1024 ∧ 0 ≤ y0 ∧ y0 ≤ y1 ∧ y1 < 1024) :
    Calls Try.prog 58 #[.agg #[.int .i64 1, .int .i64 0, .int .i64 0, .int .i64 0], .agg #[.int .i64 x0, .int .i64 y0, .int .i64 x1, .int .i64 y1]] W fun e W' => e = .returned (.agg #[.int .i64 x0, .int .i64 y0, .int .i64 x1, .int .i64 y1]) ∧ Below W.heap.size W W' := by
  have HH := Lib.hid h
  have hr := withinC_ok.2 h
  have hb1 : (withinC x0 y0 x1 y1 1024 1024 == 0) = true := by rw [hr]; rfl
  have hb0 : (withinC 1 0 0 0 1024 1024 == 0) = false := by decide
  clear h hr
  go_enter Try.func58, Try.ntmps58
  go_wp2_with fail
  have n_B := (below_alloc (below_alloc (below_alloc1 W (.cells #[.int .i64 1, .int .i64 0, .int .i64 0, .int .i64 0] 71)) (.cells #[.int .i64 x0, .int .i64 y0, .int .i64 x1, .int .i64 y1] 71)) (.cells #[.int .i64 0, .int .i64 0, .int .i64 0, .int .i64 0] 71))
  have n_0 : (((W.alloc (.cells #[.int .i64 1, .int .i64 0, .int .i64 0, .int .i64 0] 71)).alloc (.cells #[.int .i64 x0, .int .i64 y0, .int .i64 x1, .int .i64 y1] 71)).alloc (.cells #[.int .i64 0, .int .i64 0, .int .i64 0, .int .i64 0] 71)).heap[W.heap.size]? = some (.cells #[.int .i64 1, .int .i64 0, .int .i64 0, .int .i64 0] 71) := below_blk (below_alloc (below_alloc1 (W.alloc (.cells #[.int .i64 1, .int .i64 0, .int .i64 0, .int .i64 0] 71)) (.cells #[.int .i64 x0, .int .i64 y0, .int .i64 x1, .int .i64 y1] 71)) (.cells #[.int .i64 0, .int .i64 0, .int .i64 0, .int .i64 0] 71)) (blk_new_at (W := W) (o := .cells #[.int .i64 1, .int .i64 0, .int .i64 0, .int .i64 0] 71) (by simp))
  have n_1 : (((W.alloc (.cells #[.int .i64 1, .int .i64 0, .int .i64 0, .int .i64 0] 71)).alloc (.cells #[.int .i64 x0, .int .i64 y0, .int .i64 x1, .int .i64 y1] 71)).alloc (.cells #[.int .i64 0, .int .i64 0, .int .i64 0, .int .i64 0] 71)).heap[W.heap.size + 1]? = some (.cells #[.int .i64 x0, .int .i64 y0, .int .i64 x1, .int .i64 y1] 71) := below_blk (below_alloc1 ((W.alloc (.cells #[.int .i64 1, .int .i64 0, .int .i64 0, .int .i64 0] 71)).alloc (.cells #[.int .i64 x0, .int .i64 y0, .int .i64 x1, .int .i64 y1] 71)) (.cells #[.int .i64 0, .int .i64 0, .int .i64 0, .int .i64 0] 71)) (blk_new_at (W := (W.alloc (.cells #[.int .i64 1, .int .i64 0, .int .i64 0, .int .i64 0] 71))) (o := .cells #[.int .i64 x0, .int .i64 y0, .int .i64 x1, .int .i64 y1] 71) (by simp))
  have n_2 : (((W.alloc (.cells #[.int .i64 1, .int .i64 0, .int .i64 0, .int .i64 0] 71)).alloc (.cells #[.int .i64 x0, .int .i64 y0, .int .i64 x1, .int .i64 y1] 71)).alloc (.cells #[.int .i64 0, .int .i64 0, .int .i64 0, .int .i64 0] 71)).heap[W.heap.size + 1 + 1]? = some (.cells #[.int .i64 0, .int .i64 0, .int .i64 0, .int .i64 0] 71) := (blk_new_at (W := ((W.alloc (.cells #[.int .i64 1, .int .i64 0, .int .i64 0, .int .i64 0] 71)).alloc (.cells #[.int .i64 x0, .int .i64 y0, .int .i64 x1, .int .i64 y1] 71))) (o := .cells #[.int .i64 0, .int .i64 0, .int .i64 0, .int .i64 0] 71) (by simp))
  obtain ⟨Wa, hWa⟩ : ∃ Wa, (((W.alloc (.cells #[.int .i64 1, .int .i64 0, .int .i64 0, .int .i64 0] 71)).alloc (.cells #[.int .i64 x0, .int .i64 y0, .int .i64 x1, .int .i64 y1] 71)).alloc (.cells #[.int .i64 0, .int .i64 0, .int .i64 0, .int .i64 0] 71)) = Wa := ⟨_, rfl⟩
  rw [hWa] at n_0 n_1 n_2 n_B ⊢
  clear hWa
  refine (right_any 1 0 0 0 Wa).mono ?_
  rw [hb0]
  rintro e w1 ⟨rfl, hb⟩
  replace n_0 := below_blk hb n_0
  replace n_1 := below_blk hb n_1
  replace n_2 := below_blk hb n_2
  replace n_B := below_next n_B hb
  clear hb
  have i_0 := cells_w n_0 0 rfl
  have i_1 := cells_w n_0 1 rfl
  have i_2 := cells_w n_0 2 rfl
  have i_3 := cells_w n_0 3 rfl
  have l_0 := cells_w n_1 0 rfl
  have l_1 := cells_w n_1 1 rfl
  have l_2 := cells_w n_1 2 rfl
  have l_3 := cells_w n_1 3 rfl
  have q_0 := cells_w n_2 0 rfl
  have q_1 := cells_w n_2 1 rfl
  have q_2 := cells_w n_2 2 rfl
  have q_3 := cells_w n_2 3 rfl
  have z_0 := blk_frozen n_2 0
  have z_1 := blk_frozen n_2 1
  have z_2 := blk_frozen n_2 2
  have z_3 := blk_frozen n_2 3
  go_wp2_with fail
  refine (right_any x0 y0 x1 y1 w1).mono ?_
  rw [hb1]
  rintro e w2 ⟨rfl, hb⟩
  replace n_0 := below_blk hb n_0
  replace n_1 := below_blk hb n_1
  replace n_2 := below_blk hb n_2
  replace n_B := below_next n_B hb
  clear hb
  clear i_0 i_1 i_2 i_3 l_0 l_1 l_2 l_3 q_0 q_1 q_2 q_3 z_0 z_1 z_2 z_3
  have i_0 := cells_w n_0 0 rfl
  have i_1 := cells_w n_0 1 rfl
  have i_2 := cells_w n_0 2 rfl
  have i_3 := cells_w n_0 3 rfl
  go_wp2_with fail
  refine (right_any 1 0 0 0 w2).mono ?_
  rw [hb0]
  rintro e w3 ⟨rfl, hb⟩
  replace n_0 := below_blk hb n_0
  replace n_1 := below_blk hb n_1
  replace n_2 := below_blk hb n_2
  replace n_B := below_next n_B hb
  clear hb
  clear i_0 i_1 i_2 i_3
  have l_0 := cells_w n_1 0 rfl
  have l_1 := cells_w n_1 1 rfl
  have l_2 := cells_w n_1 2 rfl
  have l_3 := cells_w n_1 3 rfl
  have q_0 := cells_w n_2 0 rfl
  have q_1 := cells_w n_2 1 rfl
  have q_2 := cells_w n_2 2 rfl
  have q_3 := cells_w n_2 3 rfl
  have z_0 := blk_frozen n_2 0
  have z_1 := blk_frozen n_2 1
  have z_2 := blk_frozen n_2 2
  have z_3 := blk_frozen n_2 3
  go_wp2_with fail
  refine bodyPost_ret (res_c rfl rfl (blk_set (blk_set (blk_set (blk_set n_2 0 _) 1 _) 2 _) 3 _) agg_Rect rfl) rfl ?_
  exact ⟨rfl, (((n_B.setCell (by simp; omega) _).setCell (by simp; omega) _).setCell (by simp; omega) _).setCell (by simp; omega) _⟩
theorem hull_both (a0 b0 a1 b1 x0 y0 x1 y1 : Int) (W : World) (g : 0 ≤ a0 ∧ a0 ≤ a1 ∧ a1 < 1024 ∧ 0 ≤ b0 ∧ b0 ≤ b1 ∧ b1 < 1024) (h : 0 ≤ x0 ∧ x0 ≤ x1 ∧ x1 < 1024 ∧ 0 ≤ y0 ∧ y0 ≤ y1 ∧ y1 < 1024) :
    Calls Try.prog 58 #[.agg #[.int .i64 a0, .int .i64 b0, .int .i64 a1, .int .i64 b1], .agg #[.int .i64 x0, .int .i64 y0, .int .i64 x1, .int .i64 y1]] W fun e W' => e = .returned (.agg #[.int .i64 (imin a0 x0), .int .i64 (imin b0 y0), .int .i64 (imax a1 x1), .int .i64 (imax b1 y1)]) ∧ Below W.heap.size W W' := by
  have hr := withinC_ok.2 h
  have hs := withinC_ok.2 g
  have hb1 : (withinC x0 y0 x1 y1 1024 1024 == 0) = true := by rw [hr]; rfl
  have hb0 : (withinC a0 b0 a1 b1 1024 1024 == 0) = true := by rw [hs]; rfl
  clear h hr g hs
  go_enter Try.func58, Try.ntmps58
  go_wp2_with fail
  have n_B := (below_alloc (below_alloc (below_alloc1 W (.cells #[.int .i64 a0, .int .i64 b0, .int .i64 a1, .int .i64 b1] 71)) (.cells #[.int .i64 x0, .int .i64 y0, .int .i64 x1, .int .i64 y1] 71)) (.cells #[.int .i64 0, .int .i64 0, .int .i64 0, .int .i64 0] 71))
  have n_0 : (((W.alloc (.cells #[.int .i64 a0, .int .i64 b0, .int .i64 a1, .int .i64 b1] 71)).alloc (.cells #[.int .i64 x0, .int .i64 y0, .int .i64 x1, .int .i64 y1] 71)).alloc (.cells #[.int .i64 0, .int .i64 0, .int .i64 0, .int .i64 0] 71)).heap[W.heap.size]? = some (.cells #[.int .i64 a0, .int .i64 b0, .int .i64 a1, .int .i64 b1] 71) := below_blk (below_alloc (below_alloc1 (W.alloc (.cells #[.int .i64 a0, .int .i64 b0, .int .i64 a1, .int .i64 b1] 71)) (.cells #[.int .i64 x0, .int .i64 y0, .int .i64 x1, .int .i64 y1] 71)) (.cells #[.int .i64 0, .int .i64 0, .int .i64 0, .int .i64 0] 71)) (blk_new_at (W := W) (o := .cells #[.int .i64 a0, .int .i64 b0, .int .i64 a1, .int .i64 b1] 71) (by simp))
  have n_1 : (((W.alloc (.cells #[.int .i64 a0, .int .i64 b0, .int .i64 a1, .int .i64 b1] 71)).alloc (.cells #[.int .i64 x0, .int .i64 y0, .int .i64 x1, .int .i64 y1] 71)).alloc (.cells #[.int .i64 0, .int .i64 0, .int .i64 0, .int .i64 0] 71)).heap[W.heap.size + 1]? = some (.cells #[.int .i64 x0, .int .i64 y0, .int .i64 x1, .int .i64 y1] 71) := below_blk (below_alloc1 ((W.alloc (.cells #[.int .i64 a0, .int .i64 b0, .int .i64 a1, .int .i64 b1] 71)).alloc (.cells #[.int .i64 x0, .int .i64 y0, .int .i64 x1, .int .i64 y1] 71)) (.cells #[.int .i64 0, .int .i64 0, .int .i64 0, .int .i64 0] 71)) (blk_new_at (W := (W.alloc (.cells #[.int .i64 a0, .int .i64 b0, .int .i64 a1, .int .i64 b1] 71))) (o := .cells #[.int .i64 x0, .int .i64 y0, .int .i64 x1, .int .i64 y1] 71) (by simp))
  have n_2 : (((W.alloc (.cells #[.int .i64 a0, .int .i64 b0, .int .i64 a1, .int .i64 b1] 71)).alloc (.cells #[.int .i64 x0, .int .i64 y0, .int .i64 x1, .int .i64 y1] 71)).alloc (.cells #[.int .i64 0, .int .i64 0, .int .i64 0, .int .i64 0] 71)).heap[W.heap.size + 1 + 1]? = some (.cells #[.int .i64 0, .int .i64 0, .int .i64 0, .int .i64 0] 71) := (blk_new_at (W := ((W.alloc (.cells #[.int .i64 a0, .int .i64 b0, .int .i64 a1, .int .i64 b1] 71)).alloc (.cells #[.int .i64 x0, .int .i64 y0, .int .i64 x1, .int .i64 y1] 71))) (o := .cells #[.int .i64 0, .int .i64 0, .int .i64 0, .int .i64 0] 71) (by simp))
  obtain ⟨Wa, hWa⟩ : ∃ Wa, (((W.alloc (.cells #[.int .i64 a0, .int .i64 b0, .int .i64 a1, .int .i64 b1] 71)).alloc (.cells #[.int .i64 x0, .int .i64 y0, .int .i64 x1, .int .i64 y1] 71)).alloc (.cells #[.int .i64 0, .int .i64 0, .int .i64 0, .int .i64 0] 71)) = Wa := ⟨_, rfl⟩
  rw [hWa] at n_0 n_1 n_2 n_B ⊢
  clear hWa
  refine (right_any a0 b0 a1 b1 Wa).mono ?_
  rw [hb0]
  rintro e w1 ⟨rfl, hb⟩
  replace n_0 := below_blk hb n_0
  replace n_1 := below_blk hb n_1
  replace n_2 := below_blk hb n_2
  replace n_B := below_next n_B hb
  clear hb
  have i_0 := cells_w n_0 0 rfl
  have i_1 := cells_w n_0 1 rfl
  have i_2 := cells_w n_0 2 rfl
  have i_3 := cells_w n_0 3 rfl
  go_wp2_with fail
  refine (right_any a0 b0 a1 b1 w1).mono ?_
  rw [hb0]
  rintro e w2 ⟨rfl, hb⟩
  replace n_0 := below_blk hb n_0
  replace n_1 := below_blk hb n_1
  replace n_2 := below_blk hb n_2
  replace n_B := below_next n_B hb
  clear hb
  clear i_0 i_1 i_2 i_3
  have l_0 := cells_w n_1 0 rfl
  have l_1 := cells_w n_1 1 rfl
  have l_2 := cells_w n_1 2 rfl
  have l_3 := cells_w n_1 3 rfl
  go_wp2_with fail
  refine (right_any x0 y0 x1 y1 w2).mono ?_
  rw [hb1]
  rintro e w3 ⟨rfl, hb⟩
  replace n_0 := below_blk hb n_0
  replace n_1 := below_blk hb n_1
  replace n_2 := below_blk hb n_2
  replace n_B := below_next n_B hb
  clear hb
  clear l_0 l_1 l_2 l_3
  have i_0 := cells_w n_0 0 rfl
  have i_1 := cells_w n_0 1 rfl
  have i_2 := cells_w n_0 2 rfl
  have i_3 := cells_w n_0 3 rfl
  have l_0 := cells_w n_1 0 rfl
  have l_1 := cells_w n_1 1 rfl
  have l_2 := cells_w n_1 2 rfl
  have l_3 := cells_w n_1 3 rfl
  have q_0 := cells_w n_2 0 rfl
  have q_1 := cells_w n_2 1 rfl
  have q_2 := cells_w n_2 2 rfl
  have q_3 := cells_w n_2 3 rfl
  have z_0 := blk_frozen n_2 0
  have z_1 := blk_frozen n_2 1
  have z_2 := blk_frozen n_2 2
  have z_3 := blk_frozen n_2 3
  go_wp2_with fail
  refine bodyPost_ret (res_c rfl rfl (blk_set (blk_set (blk_set (blk_set n_2 0 _) 1 _) 2 _) 3 _) agg_Rect rfl) rfl ?_
  exact ⟨by first | rfl | (unfold imin imax; rfl) | skip, (((n_B.setCell (by simp; omega) _).setCell (by simp; omega) _).setCell (by simp; omega) _).setCell (by simp; omega) _⟩

/-- What the entries' rectangle is: none; or one that holds each of the kind. -/
def HullIs (K X Y : Nat → Int) (w h : Nat) (kind : Int) (j : Nat) (x0 y0 x1 y1 : Int) : Prop :=
  ((x0 = 1 ∧ y0 = 0 ∧ x1 = 0 ∧ y1 = 0) ∧ ∀ i, i < j → K i ≠ kind) ∨
  ((0 ≤ x0 ∧ x0 ≤ x1 ∧ x1 < w ∧ 0 ≤ y0 ∧ y0 ≤ y1 ∧ y1 < h) ∧ ∀ i, i < j → K i = kind → x0 ≤ X i ∧ X i ≤ x1 ∧ y0 ≤ Y i ∧ Y i ≤ y1)
/-- The least rectangle, or none. -/
def WhereOut (K X Y : Nat → Int) (w h : Nat) (kind : Int) (n : Nat) (W : World) (e : Ending) (W' : World) : Prop :=
  ∃ x0 y0 x1 y1 ok, e = .returned (.tuple #[.agg #[.int .i64 x0, .int .i64 y0, .int .i64 x1, .int .i64 y1], .bool ok]) ∧ Below W.heap.size W W' ∧
    (ok = false → ∀ i, i < n → K i ≠ kind) ∧ (ok = true → (0 ≤ x0 ∧ x0 ≤ x1 ∧ x1 < w ∧ 0 ≤ y0 ∧ y0 ≤ y1 ∧ y1 < h) ∧ ∀ i, i < n → K i = kind → x0 ≤ X i ∧ X i ≤ x1 ∧ y0 ≤ Y i ∧ Y i ≤ y1)
set_option maxHeartbeats 4000000 in
set_option maxRecDepth 100000 in
theorem where38_ok (n cap k w h : Nat) (o : Option Addr) (K X Y : Nat → Int) (kind : Int) (W : World) (hn : n ≤ 4294967296) (hw : w ≤ 1024) (hh : h ≤ 1024) (ho : 0 < n → o = some ⟨k, 0, none⟩)
    (h1 : ∀ i, i < n → W.cell? ⟨k, i * 3, none⟩ = some (.int .i64 (K i)) ∧ W.cell? ⟨k, i * 3 + 1, none⟩ = some (.int .i64 (X i)) ∧ W.cell? ⟨k, i * 3 + 2, none⟩ = some (.int .i64 (Y i))) (hb : ∀ i, i < n → 0 ≤ X i ∧ X i < w ∧ 0 ≤ Y i ∧ Y i < h) :
    Calls Try.prog 32 #[.slice o n cap, .int .i64 kind] W (WhereOut K X Y w h kind n W) := by
  have H1 := Lib.hid h1
  have HB := Lib.hid hb
  clear h1 hb
  go_enter Try.func32, Try.ntmps32
  go_wp2_with fail
  have n_B := (below_alloc (below_alloc1 W (.cells #[.int .i64 0, .int .i64 0, .int .i64 0, .int .i64 0] 71)) (.cells #[.int .i64 1, .int .i64 0, .int .i64 0, .int .i64 0] 71))
  have n_0 : ((W.alloc (.cells #[.int .i64 0, .int .i64 0, .int .i64 0, .int .i64 0] 71)).alloc (.cells #[.int .i64 1, .int .i64 0, .int .i64 0, .int .i64 0] 71)).heap[W.heap.size]? = some (.cells #[.int .i64 0, .int .i64 0, .int .i64 0, .int .i64 0] 71) := below_blk (below_alloc1 (W.alloc (.cells #[.int .i64 0, .int .i64 0, .int .i64 0, .int .i64 0] 71)) (.cells #[.int .i64 1, .int .i64 0, .int .i64 0, .int .i64 0] 71)) (blk_new_at (W := W) (o := .cells #[.int .i64 0, .int .i64 0, .int .i64 0, .int .i64 0] 71) (by simp))
  have n_1 : ((W.alloc (.cells #[.int .i64 0, .int .i64 0, .int .i64 0, .int .i64 0] 71)).alloc (.cells #[.int .i64 1, .int .i64 0, .int .i64 0, .int .i64 0] 71)).heap[W.heap.size + 1]? = some (.cells #[.int .i64 1, .int .i64 0, .int .i64 0, .int .i64 0] 71) := (blk_new_at (W := (W.alloc (.cells #[.int .i64 0, .int .i64 0, .int .i64 0, .int .i64 0] 71))) (o := .cells #[.int .i64 1, .int .i64 0, .int .i64 0, .int .i64 0] 71) (by simp))
  obtain ⟨Wa, hWa⟩ : ∃ Wa, ((W.alloc (.cells #[.int .i64 0, .int .i64 0, .int .i64 0, .int .i64 0] 71)).alloc (.cells #[.int .i64 1, .int .i64 0, .int .i64 0, .int .i64 0] 71)) = Wa := ⟨_, rfl⟩
  rw [hWa] at n_0 n_1 n_B ⊢
  clear hWa
  go_loopg [13] n (fun q v13 wr => ∃ (j : Nat) (x0 y0 x1 y1 : Int), Hid (j + q = n) ∧ v13 = .int .i64 (j : Int) ∧ Below W.heap.size W wr ∧ wr.heap[W.heap.size]? = some (.cells #[.int .i64 0, .int .i64 0, .int .i64 0, .int .i64 0] 71 (0, 0)) ∧ wr.heap[W.heap.size + 1]? = some (.cells #[.int .i64 x0, .int .i64 y0, .int .i64 x1, .int .i64 y1] 71 (0, 0)) ∧ Hid (HullIs K X Y w h kind j x0 y0 x1 y1))
  case atStart => exact ⟨0, 1, 0, 0, 0, Nat.zero_add _, rfl, n_B, n_0, n_1, .inl ⟨⟨rfl, rfl, rfl, rfl⟩, fun i hi => by omega⟩⟩
  case round =>
    clear n_0 n_1 n_B
    obtain ⟨j, x0, y0, x1, y1, hj, rfl, hbr, n_0, n_1, HI⟩ := hrel
    cases gk with
    | zero =>
      have ej : j = n := hj.out
      have ht : decide (j < n) = false := decide_eq_false (by omega)
      have ht2 : decide ((j : Int) < (n : Int)) = false := decide_eq_false (by omega)
      subst ej
      have i_0 := cells_w n_1 0 rfl
      have i_1 := cells_w n_1 1 rfl
      have i_2 := cells_w n_1 2 rfl
      have i_3 := cells_w n_1 3 rfl
      go_wp2_with fail
      refine (right_any x0 y0 x1 y1 wr).mono ?_
      obtain ⟨r, hr⟩ : ∃ r, (withinC x0 y0 x1 y1 1024 1024 == 0) = r := ⟨_, rfl⟩
      rw [hr]
      rintro e w1 ⟨rfl, hb⟩
      replace n_0 := below_blk hb n_0
      replace n_1 := below_blk hb n_1
      replace hbr := below_next hbr hb
      clear hb i_0 i_1 i_2 i_3
      have i_0 := cells_w n_1 0 rfl
      have i_1 := cells_w n_1 1 rfl
      have i_2 := cells_w n_1 2 rfl
      have i_3 := cells_w n_1 3 rfl
      have l_0 := cells_w n_0 0 rfl
      have l_1 := cells_w n_0 1 rfl
      have l_2 := cells_w n_0 2 rfl
      have l_3 := cells_w n_0 3 rfl
      have z_0 := blk_frozen n_0 0
      have z_1 := blk_frozen n_0 1
      have z_2 := blk_frozen n_0 2
      have z_3 := blk_frozen n_0 3
      cases r with
      | true =>
        go_wp2_with fail
        refine bodyPost_ret (res_ct rfl rfl (blk_set (blk_set (blk_set (blk_set n_0 0 _) 1 _) 2 _) 3 _) agg_Rect rfl) rfl ?_
        refine ⟨x0, y0, x1, y1, true, rfl, (((hbr.setCell (by simp) _).setCell (by simp) _).setCell (by simp) _).setCell (by simp) _, (fun z => by cases z), fun _ => ?_⟩
        rcases HI.out with ⟨⟨rfl, rfl, rfl, rfl⟩, _⟩ | z
        · exact absurd hr (by decide)
        · exact z
      | false =>
        go_wp2_with fail
        refine bodyPost_ret (res_ct rfl rfl (blk_set (blk_set (blk_set (blk_set n_0 0 _) 1 _) 2 _) 3 _) agg_Rect rfl) rfl ?_
        refine ⟨0, 0, 0, 0, false, rfl, (((hbr.setCell (by simp) _).setCell (by simp) _).setCell (by simp) _).setCell (by simp) _, fun _ => ?_, (fun z => by cases z)⟩
        rcases HI.out with ⟨_, z⟩ | ⟨z, _⟩
        · exact z
        · rw [withinC_ok.2 ⟨z.1, z.2.1, by omega, z.2.2.2.1, z.2.2.2.2.1, by omega⟩] at hr
          cases hr
    | succ m =>
      have hjn : j < n := by have := hj.out; omega
      obtain rfl := ho (by omega)
      have ht : decide (j < n) = true := decide_eq_true hjn
      have ht2 : decide ((j : Int) < (n : Int)) = true := decide_eq_true (by omega)
      have hjI : (j : Int) < (n : Int) := by omega
      obtain ⟨a0, a1, a2⟩ := H1.out j hjn
      have hbj := HB.out j hjn
      replace a0 := below_cell hbr a0
      replace a1 := below_cell hbr a1
      replace a2 := below_cell hbr a2
      obtain ⟨Kj, hKj⟩ : ∃ z, K j = z := ⟨_, rfl⟩
      obtain ⟨Xj, hXj⟩ : ∃ z, X j = z := ⟨_, rfl⟩
      obtain ⟨Yj, hYj⟩ : ∃ z, Y j = z := ⟨_, rfl⟩
      rw [hKj] at a0
      rw [hXj] at a1 hbj
      rw [hYj] at a2 hbj
      have HJ := Lib.hid (And.intro hKj (And.intro hXj hYj))
      clear hKj hXj hYj
      by_cases hk : Kj = kind
      rotate_left
      · have t1 : (Kj == kind) = false := by simp [hk]
        have t3 : decide (Kj = kind) = false := decide_eq_false hk
        have HK := Lib.hid hk
        clear hk
        go_wp2_with fail
        have r_B := (below_alloc (below_alloc1 wr (.cells #[.int .i64 Kj, .int .i64 Xj, .int .i64 Yj] 55)) (.cells #[.int .i64 Xj, .int .i64 Yj, .int .i64 Xj, .int .i64 Yj] 71))
        have r_0 : ((wr.alloc (.cells #[.int .i64 Kj, .int .i64 Xj, .int .i64 Yj] 55)).alloc (.cells #[.int .i64 Xj, .int .i64 Yj, .int .i64 Xj, .int .i64 Yj] 71)).heap[wr.heap.size]? = some (.cells #[.int .i64 Kj, .int .i64 Xj, .int .i64 Yj] 55) := below_blk (below_alloc1 (wr.alloc (.cells #[.int .i64 Kj, .int .i64 Xj, .int .i64 Yj] 55)) (.cells #[.int .i64 Xj, .int .i64 Yj, .int .i64 Xj, .int .i64 Yj] 71)) (blk_new_at (W := wr) (o := .cells #[.int .i64 Kj, .int .i64 Xj, .int .i64 Yj] 55) (by simp))
        have r_1 : ((wr.alloc (.cells #[.int .i64 Kj, .int .i64 Xj, .int .i64 Yj] 55)).alloc (.cells #[.int .i64 Xj, .int .i64 Yj, .int .i64 Xj, .int .i64 Yj] 71)).heap[wr.heap.size + 1]? = some (.cells #[.int .i64 Xj, .int .i64 Yj, .int .i64 Xj, .int .i64 Yj] 71) := (blk_new_at (W := (wr.alloc (.cells #[.int .i64 Kj, .int .i64 Xj, .int .i64 Yj] 55))) (o := .cells #[.int .i64 Xj, .int .i64 Yj, .int .i64 Xj, .int .i64 Yj] 71) (by simp))
        obtain ⟨Wb, hWb⟩ : ∃ Wb, ((wr.alloc (.cells #[.int .i64 Kj, .int .i64 Xj, .int .i64 Yj] 55)).alloc (.cells #[.int .i64 Xj, .int .i64 Yj, .int .i64 Xj, .int .i64 Yj] 71)) = Wb := ⟨_, rfl⟩
        rw [hWb] at r_0 r_1 r_B ⊢
        clear hWb
        go_roundg m
        case measure => omega
        case rel =>
          refine ⟨j + 1, x0, y0, x1, y1, by have := hj.out; exact (show j + 1 + m = n by omega), congrArg (Value.int .i64) (by push_cast; omega), below_next hbr r_B, below_blk r_B n_0, below_blk r_B n_1, ?_⟩
          rcases HI.out with ⟨z1, z2⟩ | ⟨z1, z2⟩
          · refine .inl ⟨z1, fun i hi => ?_⟩
            by_cases e : i = j
            · subst e; rw [HJ.out.1]; exact HK.out
            · exact z2 i (by omega)
          · refine .inr ⟨z1, fun i hi hki => ?_⟩
            by_cases e : i = j
            · subst e; rw [HJ.out.1] at hki; exact absurd hki HK.out
            · exact z2 i (by omega) hki
      · have t1 : (Kj == kind) = true := by simp [hk]
        have t3 : decide (Kj = kind) = true := decide_eq_true hk
        have HK := Lib.hid hk
        have HBJ := Lib.hid hbj
        clear hk
        go_wp2_with fail
        have r_B := (below_alloc (below_alloc1 wr (.cells #[.int .i64 Kj, .int .i64 Xj, .int .i64 Yj] 55)) (.cells #[.int .i64 Xj, .int .i64 Yj, .int .i64 Xj, .int .i64 Yj] 71))
        have r_0 : ((wr.alloc (.cells #[.int .i64 Kj, .int .i64 Xj, .int .i64 Yj] 55)).alloc (.cells #[.int .i64 Xj, .int .i64 Yj, .int .i64 Xj, .int .i64 Yj] 71)).heap[wr.heap.size]? = some (.cells #[.int .i64 Kj, .int .i64 Xj, .int .i64 Yj] 55) := below_blk (below_alloc1 (wr.alloc (.cells #[.int .i64 Kj, .int .i64 Xj, .int .i64 Yj] 55)) (.cells #[.int .i64 Xj, .int .i64 Yj, .int .i64 Xj, .int .i64 Yj] 71)) (blk_new_at (W := wr) (o := .cells #[.int .i64 Kj, .int .i64 Xj, .int .i64 Yj] 55) (by simp))
        have r_1 : ((wr.alloc (.cells #[.int .i64 Kj, .int .i64 Xj, .int .i64 Yj] 55)).alloc (.cells #[.int .i64 Xj, .int .i64 Yj, .int .i64 Xj, .int .i64 Yj] 71)).heap[wr.heap.size + 1]? = some (.cells #[.int .i64 Xj, .int .i64 Yj, .int .i64 Xj, .int .i64 Yj] 71) := (blk_new_at (W := (wr.alloc (.cells #[.int .i64 Kj, .int .i64 Xj, .int .i64 Yj] 55))) (o := .cells #[.int .i64 Xj, .int .i64 Yj, .int .i64 Xj, .int .i64 Yj] 71) (by simp))
        obtain ⟨Wb, hWb⟩ : ∃ Wb, ((wr.alloc (.cells #[.int .i64 Kj, .int .i64 Xj, .int .i64 Yj] 55)).alloc (.cells #[.int .i64 Xj, .int .i64 Yj, .int .i64 Xj, .int .i64 Yj] 71)) = Wb := ⟨_, rfl⟩
        rw [hWb] at r_0 r_1 r_B ⊢
        clear hWb
        refine (right_ok Xj Yj Xj Yj Wb (by omega) (by omega) (by omega) (by omega) (by omega) (by omega)).mono ?_
        rintro e w1 ⟨rfl, hb⟩
        replace n_0 := below_blk hb (below_blk r_B n_0)
        replace n_1 := below_blk hb (below_blk r_B n_1)
        replace r_1 := below_blk hb r_1
        replace hbr := below_next (below_next hbr r_B) hb
        clear hb r_B r_0 a0 a1 a2
        have i_0 := cells_w n_1 0 rfl
        have i_1 := cells_w n_1 1 rfl
        have i_2 := cells_w n_1 2 rfl
        have i_3 := cells_w n_1 3 rfl
        have l_0 := cells_w r_1 0 rfl
        have l_1 := cells_w r_1 1 rfl
        have l_2 := cells_w r_1 2 rfl
        have l_3 := cells_w r_1 3 rfl
        go_wp2_with fail
        have hnew : ∀ a b c d : Int, HullIs K X Y w h kind j x0 y0 x1 y1 → (x0 = 1 ∧ y0 = 0 ∧ x1 = 0 ∧ y1 = 0 → a = Xj ∧ b = Yj ∧ c = Xj ∧ d = Yj) → (0 ≤ x0 ∧ x0 ≤ x1 ∧ x1 < w ∧ 0 ≤ y0 ∧ y0 ≤ y1 ∧ y1 < h → a = imin x0 Xj ∧ b = imin y0 Yj ∧ c = imax x1 Xj ∧ d = imax y1 Yj) → HullIs K X Y w h kind (j + 1) a b c d := fun a b c d hI e1 e2 => by
          obtain ⟨h1, h2, h3⟩ := HJ.out
          have hB := HBJ.out
          rcases hI with ⟨z1, z2⟩ | ⟨z1, z2⟩
          · obtain ⟨rfl, rfl, rfl, rfl⟩ := e1 z1
            refine .inr ⟨by omega, fun i hi hki => ?_⟩
            by_cases e : i = j
            · subst e; rw [h2, h3]; omega
            · exact absurd hki (z2 i (by omega))
          · obtain ⟨rfl, rfl, rfl, rfl⟩ := e2 z1
            unfold imin imax
            refine .inr ⟨by repeat' split
                            all_goals omega, fun i hi hki => ?_⟩
            by_cases e : i = j
            · subst e; rw [h2, h3]
              repeat' split
              all_goals omega
            · have := z2 i (by omega) hki
              repeat' split
              all_goals omega
        have HNEW := Lib.hid hnew
        clear hnew
        rcases HI.out with ⟨⟨rfl, rfl, rfl, rfl⟩, _⟩ | ⟨z1, _⟩
        · refine (hull_first Xj Yj Xj Yj w1 ⟨by omega, by omega, by omega, by omega, by omega, by omega⟩).mono ?_
          rintro e w2 ⟨rfl, hb⟩
          replace n_0 := below_blk hb n_0
          replace n_1 := below_blk hb n_1
          replace hbr := below_next hbr hb
          clear hb i_0 i_1 i_2 i_3 l_0 l_1 l_2 l_3 r_1
          have i_0 := cells_w n_1 0 rfl
          have i_1 := cells_w n_1 1 rfl
          have i_2 := cells_w n_1 2 rfl
          have i_3 := cells_w n_1 3 rfl
          have z_0 := blk_frozen n_1 0
          have z_1 := blk_frozen n_1 1
          have z_2 := blk_frozen n_1 2
          have z_3 := blk_frozen n_1 3
          go_wp2_with fail
          go_roundg m
          case measure => omega
          case rel =>
            refine ⟨j + 1, Xj, Yj, Xj, Yj, by have := hj.out; exact (show j + 1 + m = n by omega), congrArg (Value.int .i64) (by push_cast; omega), (((hbr.setCell (by simp) _).setCell (by simp) _).setCell (by simp) _).setCell (by simp) _, ?_, by simpa using blk_set (blk_set (blk_set (blk_set n_1 0 _) 1 _) 2 _) 3 _, ?_⟩
            · refine blk_set_ne (blk_set_ne (blk_set_ne (blk_set_ne n_0 _ ?_ _) _ ?_ _) _ ?_ _) _ ?_ _ <;> (show W.heap.size + 1 ≠ W.heap.size; omega)
            · exact HNEW.out _ _ _ _ HI.out (fun _ => ⟨rfl, rfl, rfl, rfl⟩) (fun z => by omega)
        · refine (hull_both x0 y0 x1 y1 Xj Yj Xj Yj w1 ⟨by omega, by omega, by omega, by omega, by omega, by omega⟩ ⟨by omega, by omega, by omega, by omega, by omega, by omega⟩).mono ?_
          rintro e w2 ⟨rfl, hb⟩
          replace n_0 := below_blk hb n_0
          replace n_1 := below_blk hb n_1
          replace hbr := below_next hbr hb
          clear hb i_0 i_1 i_2 i_3 l_0 l_1 l_2 l_3 r_1
          have i_0 := cells_w n_1 0 rfl
          have i_1 := cells_w n_1 1 rfl
          have i_2 := cells_w n_1 2 rfl
          have i_3 := cells_w n_1 3 rfl
          have z_0 := blk_frozen n_1 0
          have z_1 := blk_frozen n_1 1
          have z_2 := blk_frozen n_1 2
          have z_3 := blk_frozen n_1 3
          have HZ := Lib.hid z1
          clear z1
          go_wp2_with fail
          go_roundg m
          case measure => omega
          case rel =>
            refine ⟨j + 1, imin x0 Xj, imin y0 Yj, imax x1 Xj, imax y1 Yj, by have := hj.out; exact (show j + 1 + m = n by omega), congrArg (Value.int .i64) (by push_cast; omega), (((hbr.setCell (by simp) _).setCell (by simp) _).setCell (by simp) _).setCell (by simp) _, ?_, by simpa using blk_set (blk_set (blk_set (blk_set n_1 0 _) 1 _) 2 _) 3 _, ?_⟩
            · refine blk_set_ne (blk_set_ne (blk_set_ne (blk_set_ne n_0 _ ?_ _) _ ?_ _) _ ?_ _) _ ?_ _ <;> (show W.heap.size + 1 ≠ W.heap.size; omega)
            · exact HNEW.out _ _ _ _ HI.out (fun z => by have := HZ.out; omega) (fun _ => ⟨rfl, rfl, rfl, rfl⟩)
end Go.Proofs.Ytfnflgcalhiamaa

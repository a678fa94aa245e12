/- hachureref15.Sizes. -/
import Derived.Test.YtgofkgmhpnkchaaLev
import Derived.Deep.LoopGhost
set_option linter.unusedVariables false
set_option linter.unusedSimpArgs false
namespace Go.Proofs.Ytgofkgmhpnkchaa
open Go.RowKit

def lcells (w h : Int) (n : Nat) : List Value := (List.range n).flatMap fun k => [.int .i64 (lw w k), .int .i64 (lw h k)]
theorem lcells_succ (w h : Int) (n : Nat) : lcells w h (n + 1) = lcells w h n ++ [.int .i64 (lw w n), .int .i64 (lw h n)] := by simp [lcells, List.range_succ]
theorem lcells_length (w h : Int) (n : Nat) : (lcells w h n).length = n * 2 := by
  induction n with
  | zero => rfl
  | succ n ih => rw [lcells_succ, List.length_append, ih]; simp; omega
theorem lcells_get (w h : Int) : ∀ (n q : Nat), q < n → (lcells w h n)[q * 2]? = some (.int .i64 (lw w q)) ∧ (lcells w h n)[q * 2 + 1]? = some (.int .i64 (lw h q))
  | n + 1, q, hq => by
    rw [lcells_succ]
    by_cases e : q = n
    · subst e
      have hl := lcells_length w h q
      rw [List.getElem?_append_right (by omega), List.getElem?_append_right (by omega), hl]
      simp
    · have hl := lcells_length w h n
      rw [List.getElem?_append_left (by omega), List.getElem?_append_left (by omega)]
      exact lcells_get w h n q (by omega)
/-- A row that the call owns: what lies where. -/
theorem own_rowS {W : World} {base n size : Nat} {e : TypeId} {v : Value} {xs : List Value} (h : W.ownsRow base e size v n xs) (hn : 0 < n) :
    ∃ k cap cs, v = .slice (some ⟨k, 0, none⟩) n cap ∧ n ≤ cap ∧ base ≤ k ∧ W.heap[k]? = some (.cells cs e (0, 0)) ∧ ∀ (i : Nat) (x : Value), xs[i]? = some x → cs[i]? = some x := by
  obtain ⟨h0, ⟨_, h2⟩ | ⟨k, cap, cs, h1, h2, h3, h4, h5, h6, h7⟩⟩ := h
  · omega
  · refine ⟨k, cap, cs, h1, h4, h2, h3, ?_⟩
    intro i x hx
    rw [← h7, List.getElem?_take] at hx
    split at hx
    · simpa using hx
    · cases hx
/-- A new block of one element is a row. -/
theorem own_box {W : World} {base size : Nat} {e : TypeId} {cs : Array Value} (hb : base ≤ W.heap.size) (hs : cs.size = size) : (W.alloc (.cells cs e)).ownsRow base e size (.slice (some ⟨W.heap.size, 0, none⟩) 1 1) 1 cs.toList :=
  ⟨by simp [hs], .inr ⟨W.heap.size, 1, cs, rfl, hb, blk_new _ _, Nat.le_refl _, by simp [maxLen], by simp [hs], by rw [List.take_of_length_le (by simp [hs])]⟩⟩
/-- All levels' sizes. -/
def SizesOut (w h : Int) (W : World) (e : Ending) (W' : World) : Prop :=
  ∃ k cap cs, e = .returned (.slice (some ⟨k, 0, none⟩) (levs w h) cap) ∧ levs w h ≤ cap ∧ W.heap.size ≤ k ∧ Below W.heap.size W W' ∧ W'.heap[k]? = some (.cells cs 24 (0, 0)) ∧
    ∀ q, q < levs w h → cs[q * 2]? = some (.int .i64 (lw w q)) ∧ cs[q * 2 + 1]? = some (.int .i64 (lw h q))
theorem info_Cell : (Try.prog.info? 24).map (fun i => (i.zero, i.size, i.bytes)) = some (some (.agg #[.int .i64 0, .int .i64 0]), 2, 16) := by kernel_rfl

set_option maxHeartbeats 2000000 in
set_option maxRecDepth 100000 in
theorem ref15_sizes_ok (w h : Int) (W : World) (w1 : 1 ≤ w) (w2 : w ≤ 1024) (h1 : 1 ≤ h) (h2 : h ≤ 1024) :
    Calls Try.prog 38 #[.int .i64 w, .int .i64 h] W (SizesOut w h W) := by
  have hL := levs_bd w1 w2 h1 h2
  obtain ⟨L, hLe⟩ : ∃ L, levs w h = L := ⟨_, rfl⟩
  have HL := Lib.hid hLe
  rw [hLe] at hL
  clear hLe
  go_enter Try.func38, Try.ntmps38
  go_wp2_with fail
  go_loopg [0, 1, 5] (L - 1) (fun q v0 v1 v5 wr => ∃ j : Nat, Hid (j + 1 + q = L) ∧ v0 = .int .i64 (lw w j) ∧ v1 = .int .i64 (lw h j) ∧ wr.ownsRow W.heap.size 24 2 v5 (j + 1) (lcells w h (j + 1)) ∧ Below W.heap.size W wr)
  case atStart => exact ⟨0, show 0 + 1 + (L - 1) = L by omega, by rw [lw0], by rw [lw0], by simpa [lcells, lw0] using own_box (W := W) (size := 2) (e := 24) (cs := #[.int .i64 w, .int .i64 h]) (Nat.le_refl _) rfl, below_alloc1 _ _⟩
  case round =>
    obtain ⟨j, hj, rfl, rfl, hown, hbr⟩ := hrel
    have b1 := lw_bd w1 j
    have b2 := lw_bd h1 j
    have hmore := more_levs w1 h1 j
    rw [HL.out] at hmore
    have s1 := lw_succ w j
    have s2 := lw_succ h j
    have HS := Lib.hid (And.intro s1 s2)
    clear s1 s2
    cases gk with
    | zero =>
      have hno : ¬ (1 < lw w j ∨ 1 < lw h j) := fun hc => by have := hmore.1 hc; have := hj.out; omega
      have t1 : decide (1 < lw w j) = false := decide_eq_false (fun x => hno (.inl x))
      have t2 : decide (1 < lw h j) = false := decide_eq_false (fun x => hno (.inr x))
      clear hno hmore
      go_wp2_with fail
      go_ret
      have ej : j + 1 = L := hj.out
      obtain ⟨k, cap, cs, hv, hc1, hc2, hc3, hc4⟩ := own_rowS hown (by omega)
      subst hv
      refine ⟨k, cap, cs, by rw [HL.out, ej]; rfl, by rw [HL.out, ← ej]; exact hc1, hc2, hbr, hc3, fun q hq => ?_⟩
      rw [HL.out, ← ej] at hq
      have := lcells_get w h (j + 1) q hq
      exact ⟨hc4 _ _ this.1, hc4 _ _ this.2⟩
    | succ m =>
      have hyes : 1 < lw w j ∨ 1 < lw h j := hmore.2 (by have := hj.out; omega)
      have hj' : j + 2 ≤ L := by have := hj.out; omega
      clear hmore
      have hsz := hbr.size
      by_cases hc : 1 < lw w j
      · have t1 : decide (1 < lw w j) = true := decide_eq_true hc
        go_wp2_with (at_builtin; refine append_el W.heap.size rfl (.tmp 36) (.tmp 40) 78 24 _ 2 16 rfl Try.underlying78 info_Cell rfl (by omega) _ _ _ [.int .i64 ((lw w j + 1) / 2), .int .i64 ((lw h j + 1) / 2)] rfl _ rfl rfl rfl ?_ hown hsz (by omega) (by omega) ?_)
        · first | exact ⟨rfl, rfl⟩ | (intro u hu; simp at hu; rcases hu with rfl | rfl <;> rfl)
        · intro v8 w8 hown8 hb8
          go_wp2_with fail
          go_roundg m
          case measure => omega
          case rel =>
            refine ⟨j + 1, by have := hj.out; exact (show j + 1 + 1 + m = L by omega), by rw [HS.out.1], by rw [HS.out.2], ?_, hbr.trans hb8⟩
            have e2 := lcells_succ w h (j + 1)
            rw [← HS.out.1, ← HS.out.2] at e2
            rw [e2]
            exact hown8
      · have t1 : decide (1 < lw w j) = false := decide_eq_false hc
        have hc2 : 1 < lw h j := hyes.resolve_left hc
        have t2 : decide (1 < lw h j) = true := decide_eq_true hc2
        clear hyes
        go_wp2_with (at_builtin; refine append_el W.heap.size rfl (.tmp 36) (.tmp 40) 78 24 _ 2 16 rfl Try.underlying78 info_Cell rfl (by omega) _ _ _ [.int .i64 ((lw w j + 1) / 2), .int .i64 ((lw h j + 1) / 2)] rfl _ rfl rfl rfl ?_ hown hsz (by omega) (by omega) ?_)
        · first | exact ⟨rfl, rfl⟩ | (intro u hu; simp at hu; rcases hu with rfl | rfl <;> rfl)
        · intro v8 w8 hown8 hb8
          go_wp2_with fail
          go_roundg m
          case measure => omega
          case rel =>
            refine ⟨j + 1, by have := hj.out; exact (show j + 1 + 1 + m = L by omega), by rw [HS.out.1], by rw [HS.out.2], ?_, hbr.trans hb8⟩
            have e2 := lcells_succ w h (j + 1)
            rw [← HS.out.1, ← HS.out.2] at e2
            rw [e2]
            exact hown8
end Go.Proofs.Ytgofkgmhpnkchaa

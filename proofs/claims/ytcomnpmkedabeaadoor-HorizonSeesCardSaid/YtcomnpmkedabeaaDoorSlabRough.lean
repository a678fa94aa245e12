/- slab.rough. -/
import Derived.Test.YtcomnpmkedabeaaDoorSlabNew
import Derived.Deep.RegionHeld3
set_option linter.unusedVariables false
set_option linter.unusedSimpArgs false
namespace Go.Proofs.YtcomnpmkedabeaaDoor
open Go.RowKit

theorem assert_ff (v : Int) (w : World) : (Instr.typeAssert (.iface 104 (.int .i32 v)) 106 104 true).run Tryd.prog w = .ok (.tuple #[.int .i32 v, .bool true]) w := by kernel_rfl
theorem assert_rf (a : Option Addr) (n c : Nat) (w : World) : (Instr.typeAssert (.iface 129 (.slice a n c)) 106 104 true).run Tryd.prog w = .ok (.tuple #[.int .i32 0, .bool false]) w := by kernel_rfl
theorem assert_rr (a : Option Addr) (n c : Nat) (w : World) : (Instr.typeAssert (.iface 129 (.slice a n c)) 106 129 true).run Tryd.prog w = .ok (.tuple #[.slice a n c, .bool true]) w := by kernel_rfl
theorem assert_fr (v : Int) (w : World) : (Instr.typeAssert (.iface 104 (.int .i32 v)) 106 129 true).run Tryd.prog w = .ok (.tuple #[.slice none 0 0, .bool false]) w := by kernel_rfl
theorem assert_f (v : Int) (w : World) : (Instr.typeAssert (.iface 104 (.int .i32 v)) 106 104 false).run Tryd.prog w = .ok (.int .i32 v) w := by kernel_rfl
attribute [go_sem] assert_ff assert_rf assert_rr assert_fr assert_f

/-- A slab whose cells are a row of values at block k. -/
structure RoughAt (W : World) (b k : Nat) (F : Nat → Prop) (w h : Int) (f : Int → Int → Int) (n cap : Nat) (cs : Array Value) : Prop where
  n_eq : (n : Int) = w * h
  cap_le : n ≤ cap
  own : F b
  ownk : F k
  ne : k ≠ b
  lt : ∀ i, F i → i < W.heap.size
  slab : W.heap[b]? = some (.cells #[.int .i64 w, .int .i64 h, .iface 129 (.slice (some ⟨k, 0, none⟩) n cap)] 108 (0, 0))
  row : W.heap[k]? = some (.cells cs 21 (0, 0))
  size : n ≤ cs.size
  cell : ∀ x y, 0 ≤ x → x < w → 0 ≤ y → y < h → cs[(y * w + x).toNat]? = some (.int .i32 (f x y))

set_option maxHeartbeats 1000000 in
set_option maxRecDepth 100000 in
theorem slab_rough_ok (b : Nat) (F : Nat → Prop) (w h : Int) (f : Int → Int → Int) (W : World) (H : SlabAt W b F w h f) :
    Calls Tryd.prog 72 #[.pointer (some ⟨b, 0, none⟩)] W fun e W' => ∃ k n cap cs, e = .returned (.slice (some ⟨k, 0, none⟩) n cap) ∧ Mod F W W' ∧ (F k ∨ W.heap.size ≤ k) ∧ RoughAt W' b k (fun i => F i ∨ i = k) w h f n cap cs := by
  obtain ⟨c, hb, hl⟩ := H.blk
  have w1 := H.w1
  have w2 := H.w2
  have h1 := H.h1
  have h2 := H.h2
  rcases hl with ⟨v, rfl, hv1, hv2, hv⟩ | ⟨k, n, cap, cs, rfl, hF, hlt, hn, hcap, hk, hcs⟩
  ·
    have k_0 := cells_w hb 0 rfl
    have k_1 := cells_w hb 1 rfl
    have k_2 := cells_w hb 2 rfl
    go_enter Tryd.func72, Tryd.ntmps72
    go_wp2_with fail
    have hm := mul_bd (A := 16) (B := 16) (show 0 ≤ w by omega) w2 (show 0 ≤ h by omega) h2
    have hm3 : 1 ≤ w * h := by have := Int.mul_le_mul_of_nonneg_right w1 (show 0 ≤ h by omega); omega
    obtain ⟨n, hn⟩ : ∃ n : Nat, (n : Int) = w * h := ⟨(w * h).toNat, by omega⟩
    have hw := wrap64_id (x := w * h) (by omega) (by omega)
    rw [← hn] at hw
    replace hw : IntKind.i64.wrap (w * h) = (n : Int) := by rw [← hn]; exact IntWalk.i64_in _ (by omega)
    have hn1 : 1 ≤ n := by omega
    have hn2 : n ≤ 256 := by omega
    have Hn := Lib.hid hn
    clear hn
    go_region_held3 (fun w' => w'.cell? ⟨b, 0, none⟩ = some (.int .i64 w) ∧ w'.cell? ⟨b, 1, none⟩ = some (.int .i64 h) ∧ w'.cell? ⟨b, 2, none⟩ = some (.iface 104 (.int .i32 v)))
      (first | go_keep | (go_split_ands; exact ⟨below_cell hb3 (by assumption), below_cell hb3 (by assumption), below_cell hb3 (by assumption)⟩))
      ((go_at_call 81; refine (repeat_ok W.heap.size n v _ hn1 hn2 ?hc).mono ?_; (case hc => exact cells_w (W := W.alloc (.cells #[.int .i32 v] 21)) (blk_new W (.cells #[.int .i32 v] 21)) 0 rfl); rintro e w3 ⟨g, rfl, hg, hb3, hrow⟩))
    have hB3 := below_next ((below_alloc1 W (.cells #[.int .i32 v] 21)).drew) hb3
    have n3 := below_blk hB3 hb
    have hgs : W.heap.size < g := by
      have h5 : (W.alloc (.cells #[.int .i32 v] 21)).drew.heap.size = W.heap.size + 1 := alloc_size W _
      omega
    have hbl := H.lt b H.own
    clear k_0 k_1 k_2 hb3 hg
    go_split_ands
    have z2 := blk_frozen n3 2
    go_wp2_with fail
    go_ret
    refine ⟨g, n, n, _, rfl, (Mod.of_below hB3).setCell (.inl H.own) _, .inr (by omega), Hn.out, Nat.le_refl _, .inl H.own, .inr rfl, by omega, ?_, blk_set n3 2 _, blk_set_ne hrow _ (by simp; omega) _, by simp, ?_⟩
    · intro i hi
      have hs3 := hB3.size
      rcases hi with hi | rfl
      · have := H.lt i hi
        simp [World.setCell]
        omega
      · have := blk_lt hrow
        simpa [World.setCell] using this
    · intro x y hx hx2 hy hy2
      have hi := idx_lt hx hx2 hy hy2
      have hN := Hn.out
      rw [Array.getElem?_replicate, if_pos (by omega), hv x y hx hx2 hy hy2]
  ·
    have k_0 := cells_w hb 0 rfl
    have k_1 := cells_w hb 1 rfl
    have k_2 := cells_w hb 2 rfl
    go_enter Tryd.func72, Tryd.ntmps72
    go_wp2_with fail
    go_ret
    refine ⟨k, n, cap, cs, rfl, Mod.refl _ _, .inl hF.1, hn, hcap, .inl H.own, .inl hF.1, hF.2, ?_, hb, hk, ?_, hcs⟩
    · intro i hi
      rcases hi with hi | rfl
      · exact H.lt i hi
      · exact hlt
    · have hi := idx_lt (x := w - 1) (y := h - 1) (w := w) (h := h) (by omega) (by omega) (by omega) (by omega)
      have hl := (Array.getElem?_eq_some_iff.1 (hcs (w - 1) (h - 1) (by omega) (by omega) (by omega) (by omega))).1
      have e : (h - 1) * w + (w - 1) = w * h - 1 := by rw [Int.sub_mul, Int.mul_comm w h]; omega
      omega
end Go.Proofs.YtcomnpmkedabeaaDoor

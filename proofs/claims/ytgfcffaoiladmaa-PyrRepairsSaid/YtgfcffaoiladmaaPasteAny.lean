/- paint.Paste, whatever the rectangle and the values. -/
import Derived.Test.YtgfcffaoiladmaaBadRect
import Derived.Test.YtgfcffaoiladmaaLandOk
set_option linter.unusedVariables false
set_option linter.unusedSimpArgs false
namespace Go.Proofs.Ytgfcffaoiladmaa
open Go.RowKit

/-- Refused, and nothing turned; or laid. -/
def PasteAny (g : Nat) (F : Nat → Prop) (w h x0 y0 x1 y1 : Int) (f : Int → Int → Int) (n : Nat) (u : Nat → Int) (W : World) (e : Ending) (W' : World) : Prop :=
  (∃ c : Int, c ≠ 0 ∧ e = .returned (.int .i64 c) ∧ Below W.heap.size W W') ∨
  (e = .returned (.int .i64 0) ∧ (0 ≤ x0 ∧ x0 ≤ x1 ∧ x1 < w ∧ 0 ≤ y0 ∧ y0 ≤ y1 ∧ y1 < h) ∧ ∃ rw rh : Nat, (rw : Int) = x1 - x0 + 1 ∧ (rh : Int) = y1 - y0 + 1 ∧ n = rw * rh ∧ (∀ j, j < n → -2147483648 ≤ u j ∧ u j ≤ 2147483647) ∧ Filled g F w h (pasteF f x0 y0 x1 y1 rw u) W W')

set_option maxHeartbeats 2000000 in
set_option maxRecDepth 100000 in
theorem paste_any (g : Nat) (F : Nat → Prop) (w h x0 y0 x1 y1 : Int) (f : Int → Int → Int) (v : Value) (n : Nat) (u : Nat → Int) (W : World) (H : GridAt W g F w h f) (hv : ArgAt W v n u) (hF : 0 < n → ∀ k, F k → ∀ ad m c, v = .slice (some ad) m c → k ≠ ad.block) :
    Calls Try.prog 22 #[.pointer (some ⟨g, 0, none⟩), .agg #[.int .i64 x0, .int .i64 y0, .int .i64 x1, .int .i64 y1], v] W (PasteAny g F w h x0 y0 x1 y1 f n u W) := by
  obtain ⟨d1, d2, d3, d4⟩ := H.dims
  obtain ⟨o, cap, rfl, hn63, hn⟩ := hv
  by_cases hc : withinC x0 y0 x1 y1 w h = 0
  rotate_left
  · have hcb : (withinC x0 y0 x1 y1 w h != 0) = true := by simp [hc]
    have HC := Lib.hid hc
    go_enter Try.func22, Try.ntmps22
    go_wp2_with fail
    have hB := below_alloc1 W (.cells #[.int .i64 x0, .int .i64 y0, .int .i64 x1, .int .i64 y1] 24)
    refine (grid_Values_bad g F w h x0 y0 x1 y1 f _ (H.below hB) HC.out).mono ?_
    rintro e w2 ⟨rfl, hb⟩
    clear hc
    go_wp2_with fail
    go_ret
    exact .inl ⟨_, HC.out, rfl, below_next hB hb⟩
  obtain ⟨a0, a1, a2, a3, a4, a5⟩ := withinC_ok.1 hc
  obtain ⟨rw, hrw⟩ : ∃ rw : Nat, (rw : Int) = x1 - x0 + 1 := ⟨(x1 - x0 + 1).toNat, by omega⟩
  obtain ⟨rh, hrh⟩ : ∃ rh : Nat, (rh : Int) = y1 - y0 + 1 := ⟨(y1 - y0 + 1).toNat, by omega⟩
  have hm := Nat.mul_le_mul (show rw ≤ 1024 by omega) (show rh ≤ 1024 by omega)
  have hm1 := Nat.mul_le_mul (show 1 ≤ rw by omega) (show 1 ≤ rh by omega)
  have harea : (x1 - x0 + 1) * (y1 - y0 + 1) = ((rw * rh : Nat) : Int) := by rw [← hrw, ← hrh]; push_cast; rfl
  by_cases hlen : n = rw * rh
  · obtain ⟨ad, rfl, hr⟩ := hn (by omega)
    by_cases hall : ∀ j, j < n → mayB (u j) = true
    · subst hlen
      refine (paint_Paste_ok g F w h x0 y0 x1 y1 f W H a0 a1 a2 a3 a4 a5 rw rh hrw hrh ad cap u (fun j hj => mayB_iff.1 (hall j hj)) hr (fun hk => hF (by omega) _ hk ad _ _ rfl rfl)).mono ?_
      rintro e W' ⟨rfl, hfl⟩
      exact .inr ⟨rfl, ⟨a0, a1, a2, a3, a4, a5⟩, rw, rh, hrw, hrh, rfl, fun j hj => mayB_iff.1 (hall j hj), hfl⟩
    · obtain ⟨N, hN⟩ : ∃ N, rw * rh = N := ⟨_, rfl⟩
      rw [hN] at hlen hm harea
      subst hlen
      have HA := Lib.hid harea
      have HALL := Lib.hid hall
      have HR := Lib.hid hr
      have HNn := Lib.hid hN
      clear harea hall hr hN hm1
      go_enter Try.func22, Try.ntmps22
      go_wp2_with fail
      have n1 := blk_new W (.cells #[.int .i64 x0, .int .i64 y0, .int .i64 x1, .int .i64 y1] 24)
      have hB := below_alloc1 W (.cells #[.int .i64 x0, .int .i64 y0, .int .i64 x1, .int .i64 y1] 24)
      have H1 := H.below hB
      refine (grid_Values_ok g F w h x0 y0 x1 y1 f _ H1 a0 a1 a2 a3 a4 a5 rw rh hrw hrh).mono ?_
      rintro e w2 ⟨k, cap2, cs, rfl, _, _, hb, _, _⟩
      replace n1 := below_blk hb n1
      replace hB := below_next hB hb
      clear hb H1
      have j_0 := cells_w n1 0 rfl
      have j_1 := cells_w n1 1 rfl
      have j_2 := cells_w n1 2 rfl
      have j_3 := cells_w n1 3 rfl
      go_wp2_with fail
      refine (area_ok x0 y0 x1 y1 w2 a0 a1 (by omega) a3 a4 (by omega)).mono ?_
      rw [HA.out]
      rintro e w3 ⟨rfl, hb⟩
      replace hB := below_next hB hb
      clear hb j_0 j_1 j_2 j_3 n1
      go_wp2_with fail
      refine (contains64_any ad n cap u w3 (by omega) (HR.out.below hB)).mono ?_
      rintro e w4 ⟨r, rfl, hr, rfl⟩
      have er : r = true := by
        cases r with
        | true => rfl
        | false => exact absurd (hr.1 rfl) HALL.out
      clear hr
      subst er
      go_wp2_with fail
      go_ret
      exact .inl ⟨7, by decide, rfl, hB⟩
  · obtain ⟨N, hN⟩ : ∃ N, rw * rh = N := ⟨_, rfl⟩
    rw [hN] at hlen hm harea
    have HA := Lib.hid harea
    have hnb : ((n : Int) != (N : Int)) = true := by simp; omega
    clear harea hN hm1 hn hF hlen
    go_enter Try.func22, Try.ntmps22
    go_wp2_with fail
    have n1 := blk_new W (.cells #[.int .i64 x0, .int .i64 y0, .int .i64 x1, .int .i64 y1] 24)
    have hB := below_alloc1 W (.cells #[.int .i64 x0, .int .i64 y0, .int .i64 x1, .int .i64 y1] 24)
    have H1 := H.below hB
    refine (grid_Values_ok g F w h x0 y0 x1 y1 f _ H1 a0 a1 a2 a3 a4 a5 rw rh hrw hrh).mono ?_
    rintro e w2 ⟨k, cap2, cs, rfl, _, _, hb, _, _⟩
    replace n1 := below_blk hb n1
    replace hB := below_next hB hb
    clear hb H1
    have j_0 := cells_w n1 0 rfl
    have j_1 := cells_w n1 1 rfl
    have j_2 := cells_w n1 2 rfl
    have j_3 := cells_w n1 3 rfl
    go_wp2_with fail
    refine (area_ok x0 y0 x1 y1 w2 a0 a1 (by omega) a3 a4 (by omega)).mono ?_
    rw [HA.out]
    rintro e w3 ⟨rfl, hb⟩
    replace hB := below_next hB hb
    clear hb j_0 j_1 j_2 j_3 n1
    go_wp2_with fail
    go_ret
    exact .inl ⟨6, by decide, rfl, hB⟩
end Go.Proofs.Ytgfcffaoiladmaa

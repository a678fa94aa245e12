/- hachurelaw16.awake: the chapter's example. -/
import Derived.Test.YtgofkgmhpnkchaaOver
import Derived.Test.YtgofkgmhpnkchaaPaste
set_option linter.unusedVariables false
set_option linter.unusedSimpArgs false
namespace Go.Proofs.Ytgofkgmhpnkchaa
open Go.RowKit

def ex3 : Nat → Int := fun i => if i = 0 then 3 else if i = 1 then 1 else 2
theorem at_ex (a b c : Int) (f : Int → Int → Int) (hf : ∀ x y, 0 ≤ x → x < 3 → 0 ≤ y → y < 1 → f x y = ex3 ((y * 3 + x).toNat)) (h : AtIs f 3 1 2 0 0 a b c) : a = 1 ∧ b = 3 ∧ c = 0 := by
  have hl : levs 3 1 = 3 := by decide +kernel
  have h3 : lw 3 2 = 1 := by decide +kernel
  have h1 : lw 1 2 = 1 := by decide +kernel
  unfold AtIs at h
  rw [hl, show (2 : Int).toNat = 2 from rfl, h3, h1, if_pos (by omega), if_pos (by omega)] at h
  have e : ∀ x y, f x y = f x y := fun _ _ => rfl
  have hr : Rng f 3 1 2 0 0 1 3 := by
    refine ⟨fun u v hs => ?_, ⟨1, 0, ⟨by omega, by omega, by omega, by omega, by decide, by decide⟩, ?_⟩, ⟨0, 0, ⟨by omega, by omega, by omega, by omega, by decide, by decide⟩, ?_⟩⟩
    · obtain ⟨c1, c2, c3, c4, _, _⟩ := hs
      rw [hf u v c1 c2 c3 c4]
      unfold ex3
      split <;> (try split) <;> omega
    · rw [hf 1 0 (by omega) (by omega) (by omega) (by omega)]; rfl
    · rw [hf 0 0 (by omega) (by omega) (by omega) (by omega)]; rfl
  have := h.2.unique hr
  exact ⟨this.1, this.2, h.1⟩

set_option maxHeartbeats 2000000 in
set_option maxRecDepth 100000 in
theorem awake16_ok (W : World) : Calls Try.prog 11 #[] W fun e W' => e = .returned (.bool true) ∧ Below W.heap.size W W' := by
  go_enter Try.func11, Try.ntmps11
  go_wp2_with fail
  have n1 := blk_new W (.cells #[.int .i64 3, .int .i64 1, .int .i64 2] 2)
  have hrow : RowAt (W.alloc (.cells #[.int .i64 3, .int .i64 1, .int .i64 2] 2)) ⟨W.heap.size, 0, none⟩ (3 * 1) ex3 := RowAt.of_blk n1 (fun i hi => by
    rcases (by omega : i = 0 ∨ i = 1 ∨ i = 2) with rfl | rfl | rfl <;> rfl)
  refine (paint_From_ok 3 1 _ (by omega) (by omega) (by omega) (by omega) ⟨W.heap.size, 0, none⟩ 3 ex3 (fun j hj => by unfold ex3; split <;> (try split) <;> omega) hrow).mono ?_
  rintro e w2 ⟨g, F, rfl, hb, hF, HG⟩
  have hB := below_next (below_alloc1 W _) hb
  clear hb hrow n1
  go_wp2_with fail
  refine (build_ok g F _ _ _ w2 HG).mono ?_
  rintro e w3 ⟨p, Fp, rfl, hb, hFp, HP⟩
  replace hB := below_next hB hb
  clear hb HG
  go_wp2_with fail
  refine (pyr_At_any p Fp _ _ 0 0 2 _ w3 HP).mono ?_
  rintro e w4 ⟨ra, rb, rc, rfl, hA, hb⟩
  obtain ⟨rfl, rfl, rfl⟩ := at_ex ra rb rc _ (fun x y _ _ _ _ => rfl) hA
  have HP4 := HP.below hb
  have hB4 := below_next hB hb
  clear hb hA HP hB
  go_wp2_with fail
  obtain ⟨A, cap, ps, s, HR⟩ := HP4.below (below_alloc1 w4 (.cells #[.int .i64 1, .int .i64 3] 39))
  refine (pyr_Levels_ok p Fp _ _ _ A cap ps s _ HR).mono ?_
  rw [show levs ((3 : Nat) : Int) ((1 : Nat) : Int) = 3 from by decide +kernel]
  rintro e w5 ⟨rfl, rfl⟩
  go_wp2_with fail
  go_ret
  exact ⟨rfl, below_alloc hB4 _⟩
end Go.Proofs.Ytgofkgmhpnkchaa

/- A grid in which a piece of one tile is filled: plain, without the program's text. -/
import Derived.Test.YtcomnpmkedabeaaDoorGridAt
import Derived.Deep.MidRow
set_option linter.unusedVariables false
set_option linter.unusedSimpArgs false
namespace Go.Proofs.YtcomnpmkedabeaaDoor
open Go.RowKit

theorem LandAt.congr {W : World} {F : Nat → Prop} {w h : Int} {f f' : Int → Int → Int} {c : Value} (H : LandAt W F w h f c) (e : ∀ x y, 0 ≤ x → x < w → 0 ≤ y → y < h → f' x y = f x y) : LandAt W F w h f' c := by
  rcases H with ⟨v, h1, h2, h3, h4⟩ | ⟨k, n, cap, cs, h1, h2, h2', h3, h4, h5, h6⟩
  · exact .inl ⟨v, h1, h2, h3, fun x y a b c d => (e x y a b c d).trans (h4 x y a b c d)⟩
  · exact .inr ⟨k, n, cap, cs, h1, h2, h2', h3, h4, h5, fun x y a b c d => by rw [e x y a b c d]; exact h6 x y a b c d⟩
theorem SlabAt.congr {W : World} {b : Nat} {F : Nat → Prop} {w h : Int} {f f' : Int → Int → Int} (H : SlabAt W b F w h f) (e : ∀ x y, 0 ≤ x → x < w → 0 ≤ y → y < h → f' x y = f x y) : SlabAt W b F w h f' := by
  obtain ⟨c, hc, hl⟩ := H.blk
  exact ⟨H.w1, H.w2, H.h1, H.h2, H.own, H.lt, fun x y a b c d => by rw [e x y a b c d]; exact H.bd x y a b c d, c, hc, hl.congr e⟩
theorem divmod_ne {m i j : Nat} (hm : 0 < m) (hne : j ≠ i) (h1 : j % m = i % m) (h2 : j / m = i / m) : False :=
  hne (by rw [← Nat.div_add_mod j m, ← Nat.div_add_mod i m, h1, h2])
theorem GridRaw.fill {W W' : World} {g : Nat} {F F' : Nat → Prop} {w h : Int} {f : Int → Int → Int} {a n cap : Nat} {ps : Array Value} {s : Nat → Nat} {Fs : Nat → Nat → Prop} (H : GridRaw W g F w h f a n cap ps s Fs)
    {i : Nat} {X0 Y0 X1 Y1 v : Int} (hi : i < n) (x0 : X0 / 16 = (i % acr w : Nat)) (x1 : X1 / 16 = (i % acr w : Nat)) (y0 : Y0 / 16 = (i / acr w : Nat)) (y1 : Y1 / 16 = (i / acr w : Nat))
    (hm : Mod (Fs i) W W') (hsub : ∀ k, F' k → Fs i k ∨ W.heap.size ≤ k)
    (HS : SlabAt W' (s i) F' (side w (i % acr w)) (side h (i / acr w)) (fillF (tileF f w i) (X0 % 16) (Y0 % 16) (X1 % 16) (Y1 % 16) v)) :
    GridRaw W' g (fun k => F k ∨ F' k) w h (fillF f X0 Y0 X1 Y1 v) a n cap ps s (fun j => if j = i then F' else Fs j) := by
  have hs := hm.size
  have hbw := acr_bd H.w1 H.w2
  refine ⟨H.w1, H.w2, H.h1, H.h2, .inl H.own, .inl H.owna, H.ne, ?_, H.n_eq, H.cap_le, ?_, ?_, H.ptr, ?_, ?_, ?_⟩
  · rintro k (hk | hk)
    · exact Nat.lt_of_lt_of_le (H.lt k hk) hs
    · exact HS.lt k hk
  · exact hm.blk H.grid (fun hF => (H.sub i g hi hF).2.1 rfl)
  · exact hm.blk H.row (fun hF => (H.sub i a hi hF).2.2 rfl)
  · intro j hj
    by_cases e : j = i
    · subst e
      simp only [if_pos]
      refine HS.congr ?_
      intro x y a1 a2 a3 a4
      have b1 := (side_bd H.w1 (Nat.mod_lt j (by omega : 0 < acr w))).2
      have hjh : j / acr w < acr h := Nat.div_lt_of_lt_mul (by rw [← H.n_eq]; exact hj)
      have b2 := (side_bd H.h1 hjh).2
      have hiff : inR (X0 % 16) (Y0 % 16) (X1 % 16) (Y1 % 16) x y ↔ inR X0 Y0 X1 Y1 (16 * (j % acr w : Nat) + x) (16 * (j / acr w : Nat) + y) := by
        unfold inR
        omega
      unfold tileF fillF
      by_cases hc : inR (X0 % 16) (Y0 % 16) (X1 % 16) (Y1 % 16) x y
      · rw [if_pos hc, if_pos (hiff.1 hc)]
      · rw [if_neg hc, if_neg (fun z => hc (hiff.2 z))]
    · simp only [if_neg e]
      refine ((H.slab j hj).mod hm (fun k h1 h2 => H.apart j i k hj hi e h1 h2)).congr ?_
      intro x y a1 a2 a3 a4
      have b1 := (side_bd H.w1 (Nat.mod_lt j (by omega : 0 < acr w))).2
      have hjh : j / acr w < acr h := Nat.div_lt_of_lt_mul (by rw [← H.n_eq]; exact hj)
      have b2 := (side_bd H.h1 hjh).2
      unfold tileF fillF
      rw [if_neg]
      unfold inR
      intro hc
      refine divmod_ne (m := acr w) (by omega) e ?_ ?_ <;> omega
  · intro j k hj hk
    by_cases e : j = i
    · subst e
      simp only [if_pos] at hk
      refine ⟨.inr hk, ?_, ?_⟩
      · rcases hsub k hk with h1 | h1
        · exact (H.sub j k hj h1).2.1
        · have := H.lt g H.own
          omega
      · rcases hsub k hk with h1 | h1
        · exact (H.sub j k hj h1).2.2
        · have := H.lt a H.owna
          omega
    · simp only [if_neg e] at hk
      exact ⟨.inl (H.sub j k hj hk).1, (H.sub j k hj hk).2⟩
  · intro j j2 k hj hj2 hne hk hk2
    have old : ∀ j, j < n → Fs j k → k < W.heap.size := fun j hj hk => H.lt k (H.sub j k hj hk).1
    by_cases e : j = i
    · subst e
      have e2 : j2 ≠ j := fun x => hne x.symm
      simp only [if_pos] at hk
      simp only [if_neg e2] at hk2
      rcases hsub k hk with h1 | h1
      · exact H.apart j j2 k hj hj2 hne h1 hk2
      · have := old j2 hj2 hk2
        omega
    · simp only [if_neg e] at hk
      by_cases e2 : j2 = i
      · subst e2
        simp only [if_pos] at hk2
        rcases hsub k hk2 with h1 | h1
        · exact H.apart j j2 k hj hj2 hne hk h1
        · have := old j hj hk
          omega
      · simp only [if_neg e2] at hk2
        exact H.apart j j2 k hj hj2 hne hk hk2

/-- The first j pieces are filled. -/
def stepF (f : Int → Int → Int) (r : R4) (v : Int) : Nat → Int → Int → Int
  | 0 => f
  | j + 1 => fillF (stepF f r v j) (piece r j).x0 (piece r j).y0 (piece r j).x1 (piece r j).y1 v
theorem step_in {f : Int → Int → Int} {r : R4} {v x y : Int} : ∀ {m q : Nat}, q < m → inR (piece r q).x0 (piece r q).y0 (piece r q).x1 (piece r q).y1 x y → stepF f r v m x y = v
  | m + 1, q, hq, h => by
    unfold stepF fillF
    by_cases e : q = m
    · subst e; rw [if_pos h]
    · rw [step_in (by omega : q < m) h, ite_self]
theorem step_out {f : Int → Int → Int} {r : R4} {v x y : Int} : ∀ {m : Nat}, (∀ q, q < m → ¬ inR (piece r q).x0 (piece r q).y0 (piece r q).x1 (piece r q).y1 x y) → stepF f r v m x y = f x y
  | 0, _ => rfl
  | m + 1, h => by
    unfold stepF fillF
    rw [if_neg (h m (by omega))]
    exact step_out (fun q hq => h q (by omega))
theorem step_all {f : Int → Int → Int} {r : R4} {v : Int} : stepF f r v (nx r.x0 r.x1 * nx r.y0 r.y1) = fillF f r.x0 r.y0 r.x1 r.y1 v := by
  funext x y
  unfold fillF
  by_cases h : inR r.x0 r.y0 r.x1 r.y1 x y
  · rw [if_pos h]
    unfold inR at h
    have h1 : (x / 16 - r.x0 / 16).toNat < nx r.x0 r.x1 := by unfold nx; omega
    have h2 : (y / 16 - r.y0 / 16).toNat < nx r.y0 r.y1 := by unfold nx; omega
    refine step_in (q := nx r.x0 r.x1 * (y / 16 - r.y0 / 16).toNat + (x / 16 - r.x0 / 16).toNat) ?_ ?_
    · have := Nat.mul_le_mul_left (nx r.x0 r.x1) (show (y / 16 - r.y0 / 16).toNat + 1 ≤ nx r.y0 r.y1 by omega)
      rw [Nat.mul_add] at this
      omega
    · rw [piece_at r _ _ h1]
      unfold inR tileOf imax imin
      simp only
      refine ⟨?_, ?_, ?_, ?_⟩ <;> split <;> omega
  · rw [if_neg h]
    refine step_out (fun q hq hc => h ?_)
    unfold inR piece tileOf imax imin at hc
    simp only at hc
    obtain ⟨c1, c2, c3, c4⟩ := hc
    unfold inR
    refine ⟨?_, ?_, ?_, ?_⟩ <;> split at c1 <;> split at c2 <;> split at c3 <;> split at c4 <;> omega

/-- A piece of a rectangle within a grid: of which tile. -/
theorem piece_tile {w h : Int} {r : R4} {q : Nat} (hw : 1 ≤ w) (hh : 1 ≤ h) (h0 : 0 ≤ r.x0) (h1 : r.x0 ≤ r.x1) (h2 : r.x1 < w) (h3 : 0 ≤ r.y0) (h4 : r.y0 ≤ r.y1) (h5 : r.y1 < h) (hq : q < nx r.x0 r.x1 * nx r.y0 r.y1) :
    ∃ i : Nat, i < acr w * acr h ∧ (i : Int) = (piece r q).y0 / 16 * ((w + 15) / 16) + (piece r q).x0 / 16 ∧
      (piece r q).x0 / 16 = (i % acr w : Nat) ∧ (piece r q).x1 / 16 = (i % acr w : Nat) ∧ (piece r q).y0 / 16 = (i / acr w : Nat) ∧ (piece r q).y1 / 16 = (i / acr w : Nat) ∧
      0 ≤ (piece r q).x0 ∧ (piece r q).x0 ≤ (piece r q).x1 ∧ (piece r q).x1 < w ∧ 0 ≤ (piece r q).y0 ∧ (piece r q).y0 ≤ (piece r q).y1 ∧ (piece r q).y1 < h ∧
      (piece r q).x1 % 16 < side w (i % acr w) ∧ (piece r q).y1 % 16 < side h (i / acr w) ∧ (piece r q).x0 % 16 ≤ (piece r q).x1 % 16 ∧ (piece r q).y0 % 16 ≤ (piece r q).y1 % 16 := by
  have e1 := acr_eq hw
  have e2 := acr_eq hh
  have p1 : 0 < nx r.x0 r.x1 := by unfold nx; omega
  have q1 : q % nx r.x0 r.x1 < nx r.x0 r.x1 := Nat.mod_lt _ p1
  have q2 : q / nx r.x0 r.x1 < nx r.y0 r.y1 := Nat.div_lt_of_lt_mul hq
  obtain ⟨u1, hu1⟩ : ∃ u, q % nx r.x0 r.x1 = u := ⟨_, rfl⟩
  obtain ⟨u2, hu2⟩ : ∃ u, q / nx r.x0 r.x1 = u := ⟨_, rfl⟩
  rw [hu1] at q1
  rw [hu2] at q2
  obtain ⟨tx, htx⟩ : ∃ tx : Nat, (tx : Int) = r.x0 / 16 + (u1 : Int) := ⟨(r.x0 / 16 + (u1 : Int)).toNat, by omega⟩
  obtain ⟨ty, hty⟩ : ∃ ty : Nat, (ty : Int) = r.y0 / 16 + (u2 : Int) := ⟨(r.y0 / 16 + (u2 : Int)).toNat, by omega⟩
  have ep : piece r q = tileOf r tx ty := by rw [htx, hty, ← hu1, ← hu2]; rfl
  clear hu1 hu2
  rw [ep]
  have n1 : (tx : Int) ≤ r.x1 / 16 := by unfold nx at q1; omega
  have n2 : (ty : Int) ≤ r.y1 / 16 := by unfold nx at q2; omega
  have n3 : r.x0 / 16 ≤ (tx : Int) := by omega
  have n4 : r.y0 / 16 ≤ (ty : Int) := by omega
  have l1 : tx < acr w := by omega
  have l2 : ty < acr h := by omega
  have hm : (ty * acr w + tx) % acr w = tx := by rw [Nat.mul_comm, Nat.mul_add_mod, Nat.mod_eq_of_lt l1]
  have hd : (ty * acr w + tx) / acr w = ty := by rw [Nat.mul_comm, Nat.mul_add_div (by omega), Nat.div_eq_of_lt l1, Nat.add_zero]
  obtain ⟨X0, hX0⟩ : ∃ X0, X0 = imax (tx * 16) r.x0 := ⟨_, rfl⟩
  obtain ⟨X1, hX1⟩ : ∃ X1, X1 = imin (tx * 16 + 16 - 1) r.x1 := ⟨_, rfl⟩
  obtain ⟨Y0, hY0⟩ : ∃ Y0, Y0 = imax (ty * 16) r.y0 := ⟨_, rfl⟩
  obtain ⟨Y1, hY1⟩ : ∃ Y1, Y1 = imin (ty * 16 + 16 - 1) r.y1 := ⟨_, rfl⟩
  have et : tileOf r tx ty = ⟨X0, Y0, X1, Y1⟩ := by rw [hX0, hX1, hY0, hY1]; rfl
  rw [et]
  dsimp only
  have fX0 : X0 / 16 = tx ∧ r.x0 ≤ X0 ∧ X0 ≤ r.x1 := by rw [hX0]; unfold imax; split <;> omega
  have fX1 : X1 / 16 = tx ∧ X0 ≤ X1 ∧ X1 ≤ r.x1 := by rw [hX1, hX0]; unfold imax imin; split <;> split <;> omega
  have fY0 : Y0 / 16 = ty ∧ r.y0 ≤ Y0 ∧ Y0 ≤ r.y1 := by rw [hY0]; unfold imax; split <;> omega
  have fY1 : Y1 / 16 = ty ∧ Y0 ≤ Y1 ∧ Y1 ≤ r.y1 := by rw [hY1, hY0]; unfold imax imin; split <;> split <;> omega
  clear hX0 hX1 hY0 hY1 et ep
  refine ⟨ty * acr w + tx, ?_, ?_, ?_, ?_, ?_, ?_, by omega, by omega, by omega, by omega, by omega, by omega, ?_, ?_, by omega, by omega⟩
  · have := Nat.mul_le_mul_right (acr w) (show ty + 1 ≤ acr h by omega)
    rw [Nat.add_mul] at this
    rw [Nat.mul_comm (acr w)]
    omega
  · rw [fX0.1, fY0.1, ← e1]
    push_cast
    rfl
  · rw [hm]; exact fX0.1
  · rw [hm]; exact fX1.1
  · rw [hd]; exact fY0.1
  · rw [hd]; exact fY1.1
  · rw [hm]; unfold side imin; split <;> omega
  · rw [hd]; unfold side imin; split <;> omega

theorem pcells_get (r : R4) : ∀ (n q c : Nat), q < n → c < 4 → (pcells r n)[q * 4 + c]? = (piece r q).cells[c]?
  | n + 1, q, c, hq, hc => by
    rw [pcells_succ]
    by_cases e : q = n
    · subst e
      rw [List.getElem?_append_right (by rw [pcells_length]; omega), pcells_length]
      congr 1
      omega
    · rw [List.getElem?_append_left (by rw [pcells_length]; omega)]
      exact pcells_get r n q c (by omega) hc
/-- What Pieces answers, as a row. -/
def PieceRow (W : World) (r : R4) (m : Nat) (v : Value) (W' : World) : Prop :=
  ∃ B cap cs, v = .slice (some ⟨B, 0, none⟩) m cap ∧ m ≤ cap ∧ W.heap.size ≤ B ∧ W'.heap[B]? = some (.cells cs 73 (0, 0)) ∧ ∀ q c, q < m → c < 4 → cs[q * 4 + c]? = (piece r q).cells[c]?
theorem PieceRow.of_own {W W' : World} {r : R4} {m : Nat} {v : Value} (hm : 0 < m) (h : W'.ownsRow W.heap.size 73 4 v m (pcells r m)) : PieceRow W r m v W' := by
  obtain ⟨_, ⟨_, h2⟩ | ⟨B, cap, cs, h1, h2, h3, h4, h5, h6, h7⟩⟩ := h
  · omega
  · refine ⟨B, cap, cs, h1, h4, h2, h3, ?_⟩
    intro q c hq hc
    rw [← pcells_get r m q c hq hc, ← h7, List.getElem?_take, if_pos (by omega)]
    simp
end Go.Proofs.YtcomnpmkedabeaaDoor

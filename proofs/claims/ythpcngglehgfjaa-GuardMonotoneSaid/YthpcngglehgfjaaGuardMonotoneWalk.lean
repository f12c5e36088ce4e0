/- The walk of GuardMonotone: the Go text returns true. -/
import Derived.Test.YthpcngglehgfjaaGrdAwake
import Derived.Test.YthpcngglehgfjaaGrdLaws
namespace Go.Proofs.Ythpcngglehgfjaa.guardMonotone
open Go.RowKit Go.Sort
set_option linter.unusedVariables false

/-- the two arrays' boxes: what they hold, whatever was written -/
structure Bx (w wr : World) (X Y : Nat → Int) : Prop where
  x : ∀ j, j < 4 → wr.cell? ⟨w.heap.size, j, none⟩ = some (.int .i64 (X j))
  y : ∀ j, j < 4 → wr.cell? ⟨w.heap.size + 1, j, none⟩ = some (.int .i64 (Y j))
  fx : ∀ j, wr.frozen? ⟨w.heap.size, j, none⟩ = false
  fy : ∀ j, wr.frozen? ⟨w.heap.size + 1, j, none⟩ = false
  g : Gr w wr
  z : w.heap.size + 1 < wr.heap.size

theorem Bx.drewN {w wr : World} {X Y : Nat → Int} (h : Bx w wr X Y) (n : Nat) : Bx w (wr.drewN n) X Y := ⟨h.x, h.y, h.fx, h.fy, h.g.drewN n, h.z⟩
theorem Bx.setx {w wr : World} {X Y : Nat → Int} (h : Bx w wr X Y) (i : Nat) (hi : i < 4) (v : Int) : Bx w (wr.setCell ⟨w.heap.size, i, none⟩ (.int .i64 v)) (fun j => if j = i then v else X j) Y := by
  refine ⟨fun j hj => ?_, fun j hj => ?_, fun j => ?_, fun j => ?_, h.g.setCell (Nat.le_refl _) _, by have := h.z; simpa [World.setCell] using this⟩
  · by_cases e : j = i
    · subst e
      rw [if_pos rfl]
      exact World.cell?_setCell_same _ _ _ (h.x j hj)
    · rw [if_neg e, World.cell?_setCell_other _ _ _ _ (fun c => e (by injection c with _ c2; exact c2.symm))]
      exact h.x j hj
  · rw [World.cell?_setCell_other _ _ _ _ (fun c => by injection c with c1; omega)]
    exact h.y j hj
  · rw [World.frozen?_setCell]; exact h.fx j
  · rw [World.frozen?_setCell]; exact h.fy j
theorem Bx.sety {w wr : World} {X Y : Nat → Int} (h : Bx w wr X Y) (i : Nat) (hi : i < 4) (v : Int) : Bx w (wr.setCell ⟨w.heap.size + 1, i, none⟩ (.int .i64 v)) X (fun j => if j = i then v else Y j) := by
  refine ⟨fun j hj => ?_, fun j hj => ?_, fun j => ?_, fun j => ?_, h.g.setCell (Nat.le_succ _) _, by have := h.z; simpa [World.setCell] using this⟩
  · rw [World.cell?_setCell_other _ _ _ _ (fun c => by injection c with c1; omega)]
    exact h.x j hj
  · by_cases e : j = i
    · subst e
      rw [if_pos rfl]
      exact World.cell?_setCell_same _ _ _ (h.y j hj)
    · rw [if_neg e, World.cell?_setCell_other _ _ _ _ (fun c => e (by injection c with _ c2; exact c2.symm))]
      exact h.y j hj
  · rw [World.frozen?_setCell]; exact h.fx j
  · rw [World.frozen?_setCell]; exact h.fy j

/-- the two boxes at the start -/
theorem Bx.start {w w1 : World} {x0 x1 x2 x3 y0 y1 y2 y3 : Int} {t : Nat} (hg : Gr ((w.alloc (Obj.cells #[.int .i64 x0, .int .i64 x1, .int .i64 x2, .int .i64 x3] t)).alloc (Obj.cells #[.int .i64 y0, .int .i64 y1, .int .i64 y2, .int .i64 y3] t)) w1) :
    Bx w w1 (fun j => [x0, x1, x2, x3].getD j 0) (fun j => [y0, y1, y2, y3].getD j 0) := by
  have hz := hg.size
  simp only [World.size_alloc] at hz
  refine ⟨fun j hj => ?_, fun j hj => ?_, fun j => ?_, fun j => ?_, (((Gr.refl _).alloc _).alloc _).trans hg, by omega⟩
  · rw [hg.cell (by simp; omega)]
    have : j = 0 ∨ j = 1 ∨ j = 2 ∨ j = 3 := by omega
    rcases this with rfl | rfl | rfl | rfl <;> go_simp
  · rw [hg.cell (by simp)]
    have : j = 0 ∨ j = 1 ∨ j = 2 ∨ j = 3 := by omega
    rcases this with rfl | rfl | rfl | rfl <;> go_simp
  · rw [hg.frozen (by simp; omega)]; go_simp
  · rw [hg.frozen (by simp)]; go_simp

theorem swapped {X Y : Nat → Int} (k : Nat) (h : ∀ j, j < k → X j ≤ Y j) (hlt : Y k < X k) : ∀ j, j < k + 1 → (fun j => if j = k then Y k else X j) j ≤ (fun j => if j = k then X k else Y j) j := fun j hj => by
  by_cases e : j = k
  · subst e; simp only [if_true]; omega
  · simp only [if_neg e]; exact h j (by omega)
theorem kept {X Y : Nat → Int} (k : Nat) (h : ∀ j, j < k → X j ≤ Y j) (hle : X k ≤ Y k) : ∀ j, j < k + 1 → X j ≤ Y j := fun j hj => by
  by_cases e : j = k
  · subst e; exact hle
  · exact h j (by omega)

/-- both numbers are there and in order, or an error is -/
theorem gros {t dr t' dr' : Int} (ht : t ≤ t') (hd : dr ≤ dr') : 0 ≤ Gd.groE t dr ∧ Gd.groE t dr ≤ 2 ∧ 0 ≤ Gd.groE t' dr' ∧ Gd.groE t' dr' ≤ 2 ∧ ((Gd.groE t dr + Gd.groE t' dr' != 0) = true ∨ (Gd.groE t dr = 0 ∧ Gd.groE t' dr' = 0 ∧ 2 ≤ Gd.groN t dr ∧ Gd.groN t dr ≤ Gd.groN t' dr')) := by
  by_cases h : Gd.groOk t dr
  · by_cases h' : Gd.groOk t' dr'
    · rw [(Gd.gro_ok h).1, (Gd.gro_ok h).2, (Gd.gro_ok h').1, (Gd.gro_ok h').2]
      obtain ⟨a1, a2, a3, a4⟩ := h
      obtain ⟨b1, b2, b3, b4⟩ := h'
      exact ⟨by omega, by omega, by omega, by omega, .inr ⟨rfl, rfl, (Gd.gr_bd t dr a1 a2 a3 a4).1, Gd.gr_mono t t' dr dr' a1 ht a3 hd⟩⟩
    · rw [(Gd.gro_ok h).2, (Gd.gro_no h').2]
      exact ⟨by omega, by omega, by omega, by omega, .inl (by decide)⟩
  · by_cases h' : Gd.groOk t' dr'
    · rw [(Gd.gro_no h).2, (Gd.gro_ok h').2]
      exact ⟨by omega, by omega, by omega, by omega, .inl (by decide)⟩
    · rw [(Gd.gro_no h).2, (Gd.gro_no h').2]
      exact ⟨by omega, by omega, by omega, by omega, .inl (by decide)⟩
theorem lens {k dr k' dr' : Int} (hk : k ≤ k') (hd : dr ≤ dr') : 0 ≤ Gd.lenE k dr ∧ Gd.lenE k dr ≤ 2 ∧ 0 ≤ Gd.lenE k' dr' ∧ Gd.lenE k' dr' ≤ 2 ∧ ((Gd.lenE k dr + Gd.lenE k' dr' != 0) = true ∨ (Gd.lenE k dr = 0 ∧ Gd.lenE k' dr' = 0 ∧ 1 ≤ Gd.lenN k dr ∧ Gd.lenN k dr ≤ Gd.lenN k' dr')) := by
  by_cases h : Gd.lenOk k dr
  · by_cases h' : Gd.lenOk k' dr'
    · rw [(Gd.len_ok h).1, (Gd.len_ok h).2, (Gd.len_ok h').1, (Gd.len_ok h').2]
      obtain ⟨a1, a2, a3, a4⟩ := h
      obtain ⟨b1, b2, b3, b4⟩ := h'
      exact ⟨by omega, by omega, by omega, by omega, .inr ⟨rfl, rfl, (Gd.ln_bd k dr a1 a2 a3 a4).1, Gd.ln_mono k k' dr dr' a1 hk b2 a3 hd b4⟩⟩
    · rw [(Gd.len_ok h).2, (Gd.len_no h').2]
      exact ⟨by omega, by omega, by omega, by omega, .inl (by decide)⟩
  · by_cases h' : Gd.lenOk k' dr'
    · rw [(Gd.len_no h).2, (Gd.len_ok h').2]
      exact ⟨by omega, by omega, by omega, by omega, .inl (by decide)⟩
    · rw [(Gd.len_no h).2, (Gd.len_no h').2]
      exact ⟨by omega, by omega, by omega, by omega, .inl (by decide)⟩
theorem sprs {a a' k dr k' dr' : Int} (ha : a ≤ a') (hk : k ≤ k') (hd : dr ≤ dr') : 0 ≤ Gd.sprE a a k dr ∧ Gd.sprE a a k dr ≤ 2 ∧ 0 ≤ Gd.sprE a' a' k' dr' ∧ Gd.sprE a' a' k' dr' ≤ 2 ∧ ((Gd.sprE a a k dr + Gd.sprE a' a' k' dr' != 0) = true ∨ (Gd.sprE a a k dr = 0 ∧ Gd.sprE a' a' k' dr' = 0 ∧ 0 ≤ Gd.sprN a a k dr ∧ Gd.sprN a a k dr ≤ Gd.sprN a' a' k' dr')) := by
  by_cases h : Gd.sprOk a a k dr
  · by_cases h' : Gd.sprOk a' a' k' dr'
    · rw [(Gd.spr_ok h).1, (Gd.spr_ok h).2, (Gd.spr_ok h').1, (Gd.spr_ok h').2]
      obtain ⟨a0, a1, _, _, a2, a3, a4, a5⟩ := h
      obtain ⟨b0, b1, _, _, b2, b3, b4, b5⟩ := h'
      exact ⟨by omega, by omega, by omega, by omega, .inr ⟨rfl, rfl, (Gd.sp_bd a a k dr a0 a1 a0 a1 a2 a3 a4 a5).1, Gd.sp_mono a a' a a' k k' dr dr' a0 ha a0 ha a2 hk b3 a4 hd b5⟩⟩
    · rw [(Gd.spr_ok h).2, (Gd.spr_no h').2]
      exact ⟨by omega, by omega, by omega, by omega, .inl (by decide)⟩
  · by_cases h' : Gd.sprOk a' a' k' dr'
    · rw [(Gd.spr_no h).2, (Gd.spr_ok h').2]
      exact ⟨by omega, by omega, by omega, by omega, .inl (by decide)⟩
    · rw [(Gd.spr_no h).2, (Gd.spr_no h').2]
      exact ⟨by omega, by omega, by omega, by omega, .inl (by decide)⟩

set_option maxHeartbeats 8000000 in
theorem walk (x0 x1 x2 x3 y0 y1 y2 y3 : Int) (wx0 : (Lit.int .i64 x0).wf = true) (wx1 : (Lit.int .i64 x1).wf = true) (wx2 : (Lit.int .i64 x2).wf = true) (wx3 : (Lit.int .i64 x3).wf = true) (wy0 : (Lit.int .i64 y0).wf = true) (wy1 : (Lit.int .i64 y1).wf = true) (wy2 : (Lit.int .i64 y2).wf = true) (wy3 : (Lit.int .i64 y3).wf = true) (w : World) :
    Calls Try.prog 5 #[.agg #[.int .i64 x0, .int .i64 x1, .int .i64 x2, .int .i64 x3], .agg #[.int .i64 y0, .int .i64 y1, .int .i64 y2, .int .i64 y3]] w fun e w' => e = .returned (.bool true) ∧ Gr w w' := by
  go_enter Try.func5, Try.ntmps5
  go_wp2_with (first | (go_at_call 11; refine (awake_any _).mono ?_; rintro e w' ⟨rfl, hn⟩; (first | have hg' := Gr.trans hg hn | have hg' := Gr.trans (Gr.alloc hg _) hn | have hg' := Gr.trans (Gr.drewN hg _) hn | have hg' := Gr.trans (Gr.alloc (Gr.alloc hg _) _) hn | have hg' := hn); (try clear hr hf hr2 hf2 hz hz2); (try clear hg); have hg := hg'; clear hg'; have hr := hg.rules.1; have hf := hg.rules.2; have hr2 := hn.rules.1; have hf2 := hn.rules.2; have hz := hg.size; (try simp only [World.size_alloc] at hz); have hz2 := hn.size; (try simp only [World.size_alloc] at hz2); (try clear hy1); (try clear hy2); (try clear hy3); (try have hy1 : w.heap.size < w'.heap.size := by omega); (try have hy2 : w.heap.size + 1 < w'.heap.size := by omega); (try have hy3 : w.heap.size + 1 + 1 < w'.heap.size := by omega); clear hn))
  have hB := Bx.start hg
  clear hg hr hf hr2 hf2 hz hz2 hy1 hy2
  go_loopw [20] (fun v wr => ∃ (k : Nat) (X Y : Nat → Int), v = .int .i64 k ∧ k ≤ 4 ∧ (∀ j, j < k → X j ≤ Y j) ∧ Bx w wr X Y) (fun v _ => 4 - (intOf v).toNat)
  case atStart => exact ⟨0, _, _, rfl, by omega, fun j h => absurd h (Nat.not_lt_zero _), hB⟩
  case round =>
    obtain ⟨k, X, Y, rfl, hk, hle, B⟩ := hrel
    clear hB
    have HL := Lib.hid hle
    clear hle
    have hk' : k = 0 ∨ k = 1 ∨ k = 2 ∨ k = 3 ∨ k = 4 := by omega
    rcases hk' with rfl | rfl | rfl | rfl | rfl
    · have c0 := B.x 0 (by omega)
      have c1 := B.y 0 (by omega)
      have f0 := B.fx 0
      have f1 := B.fy 0
      by_cases hlt : Y 0 < X 0
      · go_wp2_with fail
        go_quiet (fail)
        go_wp2_with fail
        go_region
        go_wp2
        exact ⟨⟨1, _, _, rfl, by omega, swapped 0 HL.out hlt, ((B.drewN _).setx 0 (by omega) _).sety 0 (by omega) _⟩, by simp [intOf]⟩
      · go_wp2_with fail
        go_quiet (fail)
        go_wp2_with fail
        exact ⟨⟨1, _, _, rfl, by omega, kept 0 HL.out (by omega), B.drewN _⟩, by simp [intOf]⟩
    · have c0 := B.x 1 (by omega)
      have c1 := B.y 1 (by omega)
      have f0 := B.fx 1
      have f1 := B.fy 1
      by_cases hlt : Y 1 < X 1
      · go_wp2_with fail
        go_quiet (fail)
        go_wp2_with fail
        go_region
        go_wp2
        exact ⟨⟨2, _, _, rfl, by omega, swapped 1 HL.out hlt, ((B.drewN _).setx 1 (by omega) _).sety 1 (by omega) _⟩, by simp [intOf]⟩
      · go_wp2_with fail
        go_quiet (fail)
        go_wp2_with fail
        exact ⟨⟨2, _, _, rfl, by omega, kept 1 HL.out (by omega), B.drewN _⟩, by simp [intOf]⟩
    · have c0 := B.x 2 (by omega)
      have c1 := B.y 2 (by omega)
      have f0 := B.fx 2
      have f1 := B.fy 2
      by_cases hlt : Y 2 < X 2
      · go_wp2_with fail
        go_quiet (fail)
        go_wp2_with fail
        go_region
        go_wp2
        exact ⟨⟨3, _, _, rfl, by omega, swapped 2 HL.out hlt, ((B.drewN _).setx 2 (by omega) _).sety 2 (by omega) _⟩, by simp [intOf]⟩
      · go_wp2_with fail
        go_quiet (fail)
        go_wp2_with fail
        exact ⟨⟨3, _, _, rfl, by omega, kept 2 HL.out (by omega), B.drewN _⟩, by simp [intOf]⟩
    · have c0 := B.x 3 (by omega)
      have c1 := B.y 3 (by omega)
      have f0 := B.fx 3
      have f1 := B.fy 3
      by_cases hlt : Y 3 < X 3
      · go_wp2_with fail
        go_quiet (fail)
        go_wp2_with fail
        go_region
        go_wp2
        exact ⟨⟨4, _, _, rfl, by omega, swapped 3 HL.out hlt, ((B.drewN _).setx 3 (by omega) _).sety 3 (by omega) _⟩, by simp [intOf]⟩
      · go_wp2_with fail
        go_quiet (fail)
        go_wp2_with fail
        exact ⟨⟨4, _, _, rfl, by omega, kept 3 HL.out (by omega), B.drewN _⟩, by simp [intOf]⟩
    · have a0 := B.x 0 (by omega)
      have a1 := B.x 1 (by omega)
      have a2 := B.x 2 (by omega)
      have a3 := B.x 3 (by omega)
      have b0 := B.y 0 (by omega)
      have b1 := B.y 1 (by omega)
      have b2 := B.y 2 (by omega)
      have b3 := B.y 3 (by omega)
      have hG := B.g
      have hv2 := B.z
      have hv1 : w.heap.size < wr.heap.size := by omega
      have l0 := HL.out 0 (by omega)
      have l1 := HL.out 1 (by omega)
      have l2 := HL.out 2 (by omega)
      have l3 := HL.out 3 (by omega)
      clear HL B
      generalize X 0 = x0 at *
      generalize X 1 = x1 at *
      generalize X 2 = x2 at *
      generalize X 3 = x3 at *
      generalize Y 0 = y0 at *
      generalize Y 1 = y1 at *
      generalize Y 2 = y2 at *
      generalize Y 3 = y3 at *
      obtain ⟨e1, e2, e3, e4, hE⟩ := gros l0 l1
      obtain ⟨e5, e6, e7, e8, hF⟩ := lens l2 l1
      obtain ⟨e9, e10, e11, e12, hH⟩ := sprs l3 l2 l1
      clear l0 l1 l2 l3
      have hg := Gr.refl wr
      rcases hE with hE | ⟨m1, m2, m3, m4⟩ <;> rcases hF with hF | ⟨m5, m6, m7, m8⟩ <;> rcases hH with hH | ⟨m9, m10, m11, m12⟩
      all_goals
        go_wp2_with (first | (go_at_call 12; refine (Growth_any _ _ _).mono ?_; rintro e w' ⟨rfl, hn⟩; (first | have hg' := Gr.trans hg hn | have hg' := Gr.trans (Gr.alloc hg _) hn | have hg' := Gr.trans (Gr.drewN hg _) hn | have hg' := Gr.trans (Gr.alloc (Gr.alloc hg _) _) hn | have hg' := hn); (try clear hr hf hr2 hf2 hz hz2); (try clear hg); have hg := hg'; clear hg'; have hr := hg.rules.1; have hf := hg.rules.2; have hr2 := hn.rules.1; have hf2 := hn.rules.2; have hz := hg.size; (try simp only [World.size_alloc] at hz); have hz2 := hn.size; (try simp only [World.size_alloc] at hz2); (try clear hy1); (try clear hy2); (try clear hy3); (try have hy1 : w.heap.size < w'.heap.size := by omega); (try have hy2 : w.heap.size + 1 < w'.heap.size := by omega); (try have hy3 : w.heap.size + 1 + 1 < w'.heap.size := by omega); clear hn) | (go_at_call 14; refine (Length_any _ _ _).mono ?_; rintro e w' ⟨rfl, hn⟩; (first | have hg' := Gr.trans hg hn | have hg' := Gr.trans (Gr.alloc hg _) hn | have hg' := Gr.trans (Gr.drewN hg _) hn | have hg' := Gr.trans (Gr.alloc (Gr.alloc hg _) _) hn | have hg' := hn); (try clear hr hf hr2 hf2 hz hz2); (try clear hg); have hg := hg'; clear hg'; have hr := hg.rules.1; have hf := hg.rules.2; have hr2 := hn.rules.1; have hf2 := hn.rules.2; have hz := hg.size; (try simp only [World.size_alloc] at hz); have hz2 := hn.size; (try simp only [World.size_alloc] at hz2); (try clear hy1); (try clear hy2); (try clear hy3); (try have hy1 : w.heap.size < w'.heap.size := by omega); (try have hy2 : w.heap.size + 1 < w'.heap.size := by omega); (try have hy3 : w.heap.size + 1 + 1 < w'.heap.size := by omega); clear hn) | (go_at_call 18; refine (Spread_any _ _ _ _ _).mono ?_; rintro e w' ⟨rfl, hn⟩; (first | have hg' := Gr.trans hg hn | have hg' := Gr.trans (Gr.alloc hg _) hn | have hg' := Gr.trans (Gr.drewN hg _) hn | have hg' := Gr.trans (Gr.alloc (Gr.alloc hg _) _) hn | have hg' := hn); (try clear hr hf hr2 hf2 hz hz2); (try clear hg); have hg := hg'; clear hg'; have hr := hg.rules.1; have hf := hg.rules.2; have hr2 := hn.rules.1; have hf2 := hn.rules.2; have hz := hg.size; (try simp only [World.size_alloc] at hz); have hz2 := hn.size; (try simp only [World.size_alloc] at hz2); (try clear hy1); (try clear hy2); (try clear hy3); (try have hy1 : w.heap.size < w'.heap.size := by omega); (try have hy2 : w.heap.size + 1 < w'.heap.size := by omega); (try have hy3 : w.heap.size + 1 + 1 < w'.heap.size := by omega); clear hn))
        all_goals (go_ret; exact ⟨by first | rfl | (show Ending.returned (Value.bool _) = _; exact ret_bool' (by simp <;> omega)), by repeat (first | (with_reducible exact Gr.refl _) | (with_reducible assumption) | (with_reducible refine Gr.alloc ?_ _) | (with_reducible refine Gr.drewN ?_ _) | (with_reducible refine Gr.drew ?_) | (with_reducible refine Gr.grown ?_ _ _) | (with_reducible refine Gr.setCell ?_ (by first | omega | (simp; omega) | simp) _) | (with_reducible refine Gr.trans ?_ (by with_reducible assumption)))⟩)
end Go.Proofs.Ythpcngglehgfjaa.guardMonotone

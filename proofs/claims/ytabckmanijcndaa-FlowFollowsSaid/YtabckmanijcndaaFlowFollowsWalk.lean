/- The walk of FlowFollows: the Go text returns true. -/
import Derived.Test.YtabckmanijcndaaFlwAwake
import Derived.Test.YtabckmanijcndaaR32B
namespace Go.Proofs.Ytabckmanijcndaa.flowFollows
open Go.RowKit Go.Sort
set_option linter.unusedVariables false

set_option maxHeartbeats 4000000 in
theorem walk (i fr t pe ph de k m : Int) (wi : (Lit.int .i64 i).wf = true) (wfr : (Lit.int .i64 fr).wf = true) (wt : (Lit.int .i64 t).wf = true) (wpe_ : (Lit.int .i64 pe).wf = true) (wph : (Lit.int .i64 ph).wf = true) (wde : (Lit.int .i64 de).wf = true) (wk : (Lit.int .u16 k).wf = true) (wm : (Lit.int .u16 m).wf = true) (w : World) :
    Calls Try.prog 4 #[.agg #[.int .i64 i, .int .i64 fr, .int .i64 t, .int .i64 pe, .int .i64 ph, .int .i64 de], .int .u16 k, .int .u16 m] w fun e w' => e = .returned (.bool true) ∧ Gr w w' := by
  obtain ⟨f, hf⟩ : ∃ f : Fl, f = ⟨i, fr, t, pe, ph, de⟩ := ⟨_, rfl⟩
  have wp := wpe (f := ⟨i, fr, t, pe, ph, de⟩) wpe_
  obtain rfl : f.id = i := by rw [hf]
  obtain rfl : f.fr = fr := by rw [hf]
  obtain rfl : f.to = t := by rw [hf]
  obtain rfl : f.pe = pe := by rw [hf]
  obtain rfl : f.ph = ph := by rw [hf]
  obtain rfl : f.de = de := by rw [hf]
  clear hf
  have wk1 := bounds_u16 wk
  have wm1 := bounds_u16 wm
  obtain ⟨k0, k1⟩ := wk1
  obtain ⟨m0, m1⟩ := wm1
  by_cases hc : Fw.chk 32 f = 0
  · obtain ⟨hok, -⟩ := Fw.chk_inv hc
    obtain ⟨-, p1, p2, p3, p4, p5, p6⟩ := hok
    have kp : 0 ≤ k * f.pe ∧ k * f.pe ≤ 33553920 := ⟨Int.mul_nonneg k0 (by omega), by have := Int.mul_le_mul k1 p2 (by omega) (by omega); omega⟩
    obtain ⟨kp1, kp2⟩ := kp
    have e1 : (k + 1) * f.pe = k * f.pe + f.pe := by rw [Int.add_mul, Int.one_mul]
    have r1 : Fw.relOk f k := ⟨hc, k0, by omega, by omega⟩
    have r2 : Fw.relOk f (k + 1) := ⟨hc, by omega, by omega, by omega⟩
    have a1 : Fw.relE f k = 0 := by unfold Fw.relE; rw [if_pos hc, if_pos r1]
    have a2 : Fw.relE f (k + 1) = 0 := by unfold Fw.relE; rw [if_pos hc, if_pos r2]
    have a3 : Fw.relN f k = f.ph + k * f.pe := if_pos r1
    have a4 : Fw.winT f k = f.ph + k * f.pe + f.pe - 1 := if_pos r1
    have a5 : Fw.relN f (k + 1) = f.ph + k * f.pe + f.pe := by unfold Fw.relN; rw [if_pos r2]; omega
    have a6 : Fw.dueN f k = f.ph + k * f.pe + f.de - 1 := if_pos r1
    have q1 : 0 ≤ m % f.pe := Int.emod_nonneg _ (by omega)
    have q2 : m % f.pe < f.pe := Int.emod_lt_of_pos _ (by omega)
    generalize hmr : m % f.pe = r at q1 q2
    have c1 : Fw.curOk f (f.ph + k * f.pe + r) := ⟨hc, by omega, by omega⟩
    have c2 : Fw.curB f (f.ph + k * f.pe + r) = true := decide_eq_true c1
    have c3 : Fw.curN f (f.ph + k * f.pe + r) = k := by
      unfold Fw.curN
      rw [if_pos c1, show f.ph + k * f.pe + r - f.ph = r + k * f.pe by omega, Int.add_mul_ediv_right _ _ (by omega), Int.ediv_eq_zero_of_lt q1 q2]
      omega
    have c4 : ¬ Fw.curOk f (f.ph - 1) := fun h => by have := h.2.1; omega
    have c5 : Fw.curB f (f.ph - 1) = false := decide_eq_false c4
    have c6 : Fw.curN f (f.ph - 1) = 0 := if_neg c4
    generalize k * f.pe = kp at *
    have z1 : (f.ph + kp + f.de - 1 - (f.ph + kp) + 1 != f.de) = false := by rw [bne_eq_false_iff_eq]; omega
    have z2 : f.ph + kp ≤ f.ph + kp + f.de - 1 := by omega
    have z3 : (f.ph + kp + f.pe - 1 - (f.ph + kp) + 1 != f.pe) = false := by rw [bne_eq_false_iff_eq]; omega
    clear r1 r2 c1 c4 e1 hc
    go_enter Try.func4, Try.ntmps4
    go_wp2_with (first | (go_at_call 10; refine (awake_any _).mono ?_; rintro e w' ⟨rfl, hn⟩; (first | have hg' := Gr.trans hg hn | have hg' := Gr.trans (Gr.alloc hg _) hn | have hg' := Gr.trans (Gr.drewN hg _) hn | have hg' := Gr.trans (Gr.alloc (Gr.alloc hg _) _) hn | have hg' := hn); (try clear hr hf hr2 hf2 hz hz2); (try clear hg); have hg := hg'; clear hg'; have hr := hg.rules.1; have hf := hg.rules.2; have hr2 := hn.rules.1; have hf2 := hn.rules.2; have hz := hg.size; (try simp only [World.size_alloc] at hz); have hz2 := hn.size; (try simp only [World.size_alloc] at hz2); (try clear hy1); (try clear hy2); (try clear hy3); (try have hy1 : w.heap.size < w'.heap.size := by omega); (try have hy2 : w.heap.size + 1 < w'.heap.size := by omega); (try have hy3 : w.heap.size + 1 + 1 < w'.heap.size := by omega); clear hn) | (go_at_call 11; refine (window_any f _ _).mono ?_; rintro e w' ⟨rfl, hn⟩; (first | have hg' := Gr.trans hg hn | have hg' := Gr.trans (Gr.alloc hg _) hn | have hg' := Gr.trans (Gr.drewN hg _) hn | have hg' := Gr.trans (Gr.alloc (Gr.alloc hg _) _) hn | have hg' := hn); (try clear hr hf hr2 hf2 hz hz2); (try clear hg); have hg := hg'; clear hg'; have hr := hg.rules.1; have hf := hg.rules.2; have hr2 := hn.rules.1; have hf2 := hn.rules.2; have hz := hg.size; (try simp only [World.size_alloc] at hz); have hz2 := hn.size; (try simp only [World.size_alloc] at hz2); (try clear hy1); (try clear hy2); (try clear hy3); (try have hy1 : w.heap.size < w'.heap.size := by omega); (try have hy2 : w.heap.size + 1 < w'.heap.size := by omega); (try have hy3 : w.heap.size + 1 + 1 < w'.heap.size := by omega); clear hn) | (go_at_call 13; refine (due_any f _ _).mono ?_; rintro e w' ⟨rfl, hn⟩; (first | have hg' := Gr.trans hg hn | have hg' := Gr.trans (Gr.alloc hg _) hn | have hg' := Gr.trans (Gr.drewN hg _) hn | have hg' := Gr.trans (Gr.alloc (Gr.alloc hg _) _) hn | have hg' := hn); (try clear hr hf hr2 hf2 hz hz2); (try clear hg); have hg := hg'; clear hg'; have hr := hg.rules.1; have hf := hg.rules.2; have hr2 := hn.rules.1; have hf2 := hn.rules.2; have hz := hg.size; (try simp only [World.size_alloc] at hz); have hz2 := hn.size; (try simp only [World.size_alloc] at hz2); (try clear hy1); (try clear hy2); (try clear hy3); (try have hy1 : w.heap.size < w'.heap.size := by omega); (try have hy2 : w.heap.size + 1 < w'.heap.size := by omega); (try have hy3 : w.heap.size + 1 + 1 < w'.heap.size := by omega); clear hn) | (go_at_call 15; refine (current_any f _ _).mono ?_; rintro e w' ⟨rfl, hn⟩; (first | have hg' := Gr.trans hg hn | have hg' := Gr.trans (Gr.alloc hg _) hn | have hg' := Gr.trans (Gr.drewN hg _) hn | have hg' := Gr.trans (Gr.alloc (Gr.alloc hg _) _) hn | have hg' := hn); (try clear hr hf hr2 hf2 hz hz2); (try clear hg); have hg := hg'; clear hg'; have hr := hg.rules.1; have hf := hg.rules.2; have hr2 := hn.rules.1; have hf2 := hn.rules.2; have hz := hg.size; (try simp only [World.size_alloc] at hz); have hz2 := hn.size; (try simp only [World.size_alloc] at hz2); (try clear hy1); (try clear hy2); (try clear hy3); (try have hy1 : w.heap.size < w'.heap.size := by omega); (try have hy2 : w.heap.size + 1 < w'.heap.size := by omega); (try have hy3 : w.heap.size + 1 + 1 < w'.heap.size := by omega); clear hn))
    all_goals
      go_ret
      exact ⟨by first | rfl | simp, by repeat (first | (with_reducible exact Gr.refl _) | (with_reducible assumption) | (with_reducible refine Gr.alloc ?_ _) | (with_reducible refine Gr.drewN ?_ _) | (with_reducible refine Gr.drew ?_) | (with_reducible refine Gr.grown ?_ _ _) | (with_reducible refine Gr.regrown ?_ _ _) | (with_reducible refine Gr.setCell ?_ (by first | omega | (simp; omega) | simp) _) | (with_reducible refine Gr.trans ?_ (by with_reducible assumption)))⟩
  · have r1 : ∀ j, ¬ Fw.relOk f j := fun j h => hc h.1
    have a1 : ∀ j, Fw.relE f j = 1 := fun j => by unfold Fw.relE; rw [if_neg hc]
    have b1 := a1 k
    have b2 := a1 (k + 1)
    clear r1 a1 hc
    go_enter Try.func4, Try.ntmps4
    go_wp2_with (first | (go_at_call 10; refine (awake_any _).mono ?_; rintro e w' ⟨rfl, hn⟩; (first | have hg' := Gr.trans hg hn | have hg' := Gr.trans (Gr.alloc hg _) hn | have hg' := Gr.trans (Gr.drewN hg _) hn | have hg' := Gr.trans (Gr.alloc (Gr.alloc hg _) _) hn | have hg' := hn); (try clear hr hf hr2 hf2 hz hz2); (try clear hg); have hg := hg'; clear hg'; have hr := hg.rules.1; have hf := hg.rules.2; have hr2 := hn.rules.1; have hf2 := hn.rules.2; have hz := hg.size; (try simp only [World.size_alloc] at hz); have hz2 := hn.size; (try simp only [World.size_alloc] at hz2); (try clear hy1); (try clear hy2); (try clear hy3); (try have hy1 : w.heap.size < w'.heap.size := by omega); (try have hy2 : w.heap.size + 1 < w'.heap.size := by omega); (try have hy3 : w.heap.size + 1 + 1 < w'.heap.size := by omega); clear hn) | (go_at_call 11; refine (window_any f _ _).mono ?_; rintro e w' ⟨rfl, hn⟩; (first | have hg' := Gr.trans hg hn | have hg' := Gr.trans (Gr.alloc hg _) hn | have hg' := Gr.trans (Gr.drewN hg _) hn | have hg' := Gr.trans (Gr.alloc (Gr.alloc hg _) _) hn | have hg' := hn); (try clear hr hf hr2 hf2 hz hz2); (try clear hg); have hg := hg'; clear hg'; have hr := hg.rules.1; have hf := hg.rules.2; have hr2 := hn.rules.1; have hf2 := hn.rules.2; have hz := hg.size; (try simp only [World.size_alloc] at hz); have hz2 := hn.size; (try simp only [World.size_alloc] at hz2); (try clear hy1); (try clear hy2); (try clear hy3); (try have hy1 : w.heap.size < w'.heap.size := by omega); (try have hy2 : w.heap.size + 1 < w'.heap.size := by omega); (try have hy3 : w.heap.size + 1 + 1 < w'.heap.size := by omega); clear hn) | (go_at_call 13; refine (due_any f _ _).mono ?_; rintro e w' ⟨rfl, hn⟩; (first | have hg' := Gr.trans hg hn | have hg' := Gr.trans (Gr.alloc hg _) hn | have hg' := Gr.trans (Gr.drewN hg _) hn | have hg' := Gr.trans (Gr.alloc (Gr.alloc hg _) _) hn | have hg' := hn); (try clear hr hf hr2 hf2 hz hz2); (try clear hg); have hg := hg'; clear hg'; have hr := hg.rules.1; have hf := hg.rules.2; have hr2 := hn.rules.1; have hf2 := hn.rules.2; have hz := hg.size; (try simp only [World.size_alloc] at hz); have hz2 := hn.size; (try simp only [World.size_alloc] at hz2); (try clear hy1); (try clear hy2); (try clear hy3); (try have hy1 : w.heap.size < w'.heap.size := by omega); (try have hy2 : w.heap.size + 1 < w'.heap.size := by omega); (try have hy3 : w.heap.size + 1 + 1 < w'.heap.size := by omega); clear hn) | (go_at_call 15; refine (current_any f _ _).mono ?_; rintro e w' ⟨rfl, hn⟩; (first | have hg' := Gr.trans hg hn | have hg' := Gr.trans (Gr.alloc hg _) hn | have hg' := Gr.trans (Gr.drewN hg _) hn | have hg' := Gr.trans (Gr.alloc (Gr.alloc hg _) _) hn | have hg' := hn); (try clear hr hf hr2 hf2 hz hz2); (try clear hg); have hg := hg'; clear hg'; have hr := hg.rules.1; have hf := hg.rules.2; have hr2 := hn.rules.1; have hf2 := hn.rules.2; have hz := hg.size; (try simp only [World.size_alloc] at hz); have hz2 := hn.size; (try simp only [World.size_alloc] at hz2); (try clear hy1); (try clear hy2); (try clear hy3); (try have hy1 : w.heap.size < w'.heap.size := by omega); (try have hy2 : w.heap.size + 1 < w'.heap.size := by omega); (try have hy3 : w.heap.size + 1 + 1 < w'.heap.size := by omega); clear hn))
    all_goals
      go_ret
      exact ⟨by first | rfl | simp, by repeat (first | (with_reducible exact Gr.refl _) | (with_reducible assumption) | (with_reducible refine Gr.alloc ?_ _) | (with_reducible refine Gr.drewN ?_ _) | (with_reducible refine Gr.drew ?_) | (with_reducible refine Gr.grown ?_ _ _) | (with_reducible refine Gr.regrown ?_ _ _) | (with_reducible refine Gr.setCell ?_ (by first | omega | (simp; omega) | simp) _) | (with_reducible refine Gr.trans ?_ (by with_reducible assumption)))⟩
end Go.Proofs.Ytabckmanijcndaa.flowFollows

/- The walk of FlowChecks: the Go text returns true. -/
import Derived.Test.YtabckmanijcndaaFlwAwake
import Derived.Test.YtabckmanijcndaaR32E
import Derived.Test.YtabckmanijcndaaFlwOk
namespace Go.Proofs.Ytabckmanijcndaa.flowChecks
open Go.RowKit Go.Sort
set_option linter.unusedVariables false

set_option maxHeartbeats 4000000 in
theorem walk (m : Int) (v1 : Value) (l : List Fl) (id : Int) (wm : (Lit.int .i64 m).wf = true) (wid : (Lit.int .i64 id).wf = true) (w : World) (rl : Rows 6 encF w v1 l) (bl : (l.length : Int) ≤ 9223372036854775807) (kl : ∀ A n c, v1 = .slice A n c → n ≤ c ∧ c ≤ 9223372036854775807) (wl : ∀ x ∈ l, okF x) :
    Calls Try.prog 6 #[.int .i64 m, v1, .int .i64 id] w fun e w' => e = .returned (.bool true) ∧ Gr w w' := by
  obtain ⟨A, c, rfl⟩ := rl.slice
  have HR := Lib.hid rl
  have HW : Aside (okW l) := fun x hx => (wl x hx).2
  clear rl wl kl
  by_cases hn : 20 < l.length
  · have hz : (20 : Int) < (l.length : Int) := by omega
    go_enter Try.func6, Try.ntmps6
    go_wp2_with (first | (go_at_call 10; refine (awake_any _).mono ?_; rintro e w' ⟨rfl, hn⟩; (first | have hg' := Gr.trans hg hn | have hg' := Gr.trans (Gr.alloc hg _) hn | have hg' := Gr.trans (Gr.drewN hg _) hn | have hg' := Gr.trans (Gr.alloc (Gr.alloc hg _) _) hn | have hg' := hn); (try clear hr hf hr2 hf2 hz hz2); (try clear hg); have hg := hg'; clear hg'; have hr := hg.rules.1; have hf := hg.rules.2; have hr2 := hn.rules.1; have hf2 := hn.rules.2; have hz := hg.size; (try simp only [World.size_alloc] at hz); have hz2 := hn.size; (try simp only [World.size_alloc] at hz2); (try clear hy1); (try clear hy2); (try clear hy3); (try have hy1 : w.heap.size < w'.heap.size := by omega); (try have hy2 : w.heap.size + 1 < w'.heap.size := by omega); (try have hy3 : w.heap.size + 1 + 1 < w'.heap.size := by omega); clear hn))
    go_ret
    exact ⟨by first | rfl | simp, by repeat (first | (with_reducible exact Gr.refl _) | (with_reducible assumption) | (with_reducible refine Gr.alloc ?_ _) | (with_reducible refine Gr.drewN ?_ _) | (with_reducible refine Gr.drew ?_) | (with_reducible refine Gr.grown ?_ _ _) | (with_reducible refine Gr.regrown ?_ _ _) | (with_reducible refine Gr.setCell ?_ (by first | omega | (simp; omega) | simp) _) | (with_reducible refine Gr.trans ?_ (by with_reducible assumption)))⟩
  · have hz : ¬ (20 : Int) < (l.length : Int) := by omega
    have bb : l.length ≤ 4611686018427387904 := by omega
    go_enter Try.func6, Try.ntmps6
    go_wp2_with fail
    refine (awake_any _).mono ?_
    rintro e w1 ⟨rfl, g1⟩
    have G1 : Aside (Gr w w1) := g1
    go_wp2_with fail
    refine (check_rows _ _ _ _ (HR.out.gr G1.out) ⟨bl, bb⟩).mono ?_
    rintro e w2 ⟨rfl, g2⟩
    have G2 : Aside (Gr w w2) := G1.out.trans g2
    go_wp2_with fail
    refine (rcheck_rows _ _ _ _ (HR.out.gr G2.out) HW.out bb).mono ?_
    rintro e w3 ⟨rfl, g3⟩
    have G3 : Aside (Gr w w3) := G2.out.trans g3
    go_wp2_with fail
    refine (hyper_rows _ _ _ (HR.out.gr G3.out) bb).mono ?_
    rintro e w4 ⟨rfl, g4⟩
    have G4 : Aside (Gr w w4) := G3.out.trans g4
    go_wp2_with fail
    refine (rhyper_rows _ _ _ (HR.out.gr G4.out) HW.out bb).mono ?_
    rintro e w5 ⟨rfl, g5⟩
    have G5 : Aside (Gr w w5) := G4.out.trans g5
    go_wp2_with fail
    refine (find_rows _ _ _ _ (HR.out.gr G5.out) bb).mono ?_
    rintro e w6 ⟨rfl, g6⟩
    have G6 : Aside (Gr w w6) := G5.out.trans g6
    go_wp2_with fail
    refine (rfind_rows _ _ _ _ (HR.out.gr G6.out) bb).mono ?_
    rintro e w7 ⟨rfl, g7⟩
    have G7 : Aside (Gr w w7) := G6.out.trans g7
    go_wp2_with fail
    go_ret
    exact ⟨by first | rfl | simp, G7.out⟩
end Go.Proofs.Ytabckmanijcndaa.flowChecks

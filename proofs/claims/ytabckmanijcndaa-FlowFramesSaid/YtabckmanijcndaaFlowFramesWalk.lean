/- The walk of FlowFrames: the Go text returns true. -/
import Derived.Test.YtabckmanijcndaaFlwAwake
import Derived.Test.YtabckmanijcndaaR32C
import Derived.Test.YtabckmanijcndaaEqualInts
namespace Go.Proofs.Ytabckmanijcndaa.flowFrames
open Go.RowKit Go.Sort
set_option linter.unusedVariables false

set_option maxHeartbeats 4000000 in
theorem walk (i fr t pe ph de s b c : Int) (wi : (Lit.int .i64 i).wf = true) (wfr : (Lit.int .i64 fr).wf = true) (wt : (Lit.int .i64 t).wf = true) (wpe_ : (Lit.int .i64 pe).wf = true) (wph : (Lit.int .i64 ph).wf = true) (wde : (Lit.int .i64 de).wf = true) (ws : (Lit.int .i64 s).wf = true) (wb : (Lit.int .i64 b).wf = true) (wc : (Lit.int .i64 c).wf = true) (w : World) :
    Calls Try.prog 8 #[.agg #[.int .i64 i, .int .i64 fr, .int .i64 t, .int .i64 pe, .int .i64 ph, .int .i64 de], .int .i64 s, .int .i64 b, .int .i64 c] w fun e w' => e = .returned (.bool true) ∧ Gr w w' := by
  obtain ⟨f, hf⟩ : ∃ f : Fl, f = ⟨i, fr, t, pe, ph, de⟩ := ⟨_, rfl⟩
  have wp := wpe (f := ⟨i, fr, t, pe, ph, de⟩) wpe_
  obtain rfl : f.id = i := by rw [hf]
  obtain rfl : f.fr = fr := by rw [hf]
  obtain rfl : f.to = t := by rw [hf]
  obtain rfl : f.pe = pe := by rw [hf]
  obtain rfl : f.ph = ph := by rw [hf]
  obtain rfl : f.de = de := by rw [hf]
  clear hf
  go_enter Try.func8, Try.ntmps8
  go_wp2_with (first | (go_at_call 10; refine (awake_any _).mono ?_; rintro e w' ⟨rfl, hn⟩; (first | have hg' := Gr.trans hg hn | have hg' := Gr.trans (Gr.alloc hg _) hn | have hg' := Gr.trans (Gr.drewN hg _) hn | have hg' := Gr.trans (Gr.alloc (Gr.alloc hg _) _) hn | have hg' := hn); (try clear hr hf hr2 hf2 hz hz2); (try clear hg); have hg := hg'; clear hg'; have hr := hg.rules.1; have hf := hg.rules.2; have hr2 := hn.rules.1; have hf2 := hn.rules.2; have hz := hg.size; (try simp only [World.size_alloc] at hz); have hz2 := hn.size; (try simp only [World.size_alloc] at hz2); (try clear hy1); (try clear hy2); (try clear hy3); (try have hy1 : w.heap.size < w'.heap.size := by omega); (try have hy2 : w.heap.size + 1 < w'.heap.size := by omega); (try have hy3 : w.heap.size + 1 + 1 < w'.heap.size := by omega); clear hn) | (go_at_call 15; refine (current_any f _ _).mono ?_; rintro e w' ⟨rfl, hn⟩; (first | have hg' := Gr.trans hg hn | have hg' := Gr.trans (Gr.alloc hg _) hn | have hg' := Gr.trans (Gr.drewN hg _) hn | have hg' := Gr.trans (Gr.alloc (Gr.alloc hg _) _) hn | have hg' := hn); (try clear hr hf hr2 hf2 hz hz2); (try clear hg); have hg := hg'; clear hg'; have hr := hg.rules.1; have hf := hg.rules.2; have hr2 := hn.rules.1; have hf2 := hn.rules.2; have hz := hg.size; (try simp only [World.size_alloc] at hz); have hz2 := hn.size; (try simp only [World.size_alloc] at hz2); (try clear hy1); (try clear hy2); (try clear hy3); (try have hy1 : w.heap.size < w'.heap.size := by omega); (try have hy2 : w.heap.size + 1 < w'.heap.size := by omega); (try have hy3 : w.heap.size + 1 + 1 < w'.heap.size := by omega); clear hn) | (go_at_call 25; refine (rcurrent_any f _ _ wp).mono ?_; rintro e w' ⟨rfl, hn⟩; (first | have hg' := Gr.trans hg hn | have hg' := Gr.trans (Gr.alloc hg _) hn | have hg' := Gr.trans (Gr.drewN hg _) hn | have hg' := Gr.trans (Gr.alloc (Gr.alloc hg _) _) hn | have hg' := hn); (try clear hr hf hr2 hf2 hz hz2); (try clear hg); have hg := hg'; clear hg'; have hr := hg.rules.1; have hf := hg.rules.2; have hr2 := hn.rules.1; have hf2 := hn.rules.2; have hz := hg.size; (try simp only [World.size_alloc] at hz); have hz2 := hn.size; (try simp only [World.size_alloc] at hz2); (try clear hy1); (try clear hy2); (try clear hy3); (try have hy1 : w.heap.size < w'.heap.size := by omega); (try have hy2 : w.heap.size + 1 < w'.heap.size := by omega); (try have hy3 : w.heap.size + 1 + 1 < w'.heap.size := by omega); clear hn))
  refine (frames_any f _ _ _).mono ?_
  rintro e w1 ⟨v1, rfl, R1, g1⟩
  have G1 := hg.trans g1
  clear hr hf hr2 hf2 hg hz hz2 hy1
  have hr := G1.rules.1
  have y1 : w.heap.size < w1.heap.size := by have := G1.size; simp at this; omega
  go_wp2_with fail
  refine (rframes_any f _ _ _ wp).mono ?_
  rintro e w2 ⟨v2, rfl, R2, g2⟩
  have GG : Aside (Gr w w2) := Gr.trans (Gr.alloc (Gr.refl w) _) (G1.trans g2)
  clear hr
  have B1 := Fw.frL_le f b c
  go_wp2_with fail
  refine (equal_any v1 v2 _ _ _ (R1.gr g2) R2 (by omega) (by omega)).mono ?_
  rintro e w3 ⟨rfl, g3⟩
  go_wp2_with fail
  go_ret
  exact ⟨by first | rfl | simp, GG.out.trans g3⟩
end Go.Proofs.Ytabckmanijcndaa.flowFrames

/- The law package's own example holds: awake returns true. No condition. -/
import Derived.Test.YtabckmanijcndaaFlwE
namespace Go.Proofs.Ytabckmanijcndaa
open Go.RowKit Go.Sort
set_option linter.unusedVariables false

def aw0 : Fl := ⟨1, 0, 1, 4, 1, 3⟩
def aw1 : Fl := ⟨2, 0, 1, 6, 0, 1⟩
def awz (j : Nat) : Fl := if j = 0 then aw0 else aw1
theorem aw_w (w : World) : Calls Try.prog 11 #[.agg #[.int .i64 1, .int .i64 0, .int .i64 1, .int .i64 4, .int .i64 1, .int .i64 3], .int .i64 2] w fun e w' => e = .returned (.tuple #[.int .i64 9, .int .i64 12, .int .i64 0]) ∧ Gr w w' :=
  (window_any aw0 2 w).mono fun e w' ⟨h, g⟩ => ⟨h.trans (ret_int3 (by decide) (by decide) (by decide)), g⟩
theorem aw_d (w : World) : Calls Try.prog 13 #[.agg #[.int .i64 1, .int .i64 0, .int .i64 1, .int .i64 4, .int .i64 1, .int .i64 3], .int .i64 2] w fun e w' => e = .returned (.tuple #[.int .i64 11, .int .i64 0]) ∧ Gr w w' :=
  (due_any aw0 2 w).mono fun e w' ⟨h, g⟩ => ⟨h.trans (ret_int2 (by decide) (by decide)), g⟩
theorem aw_c (w : World) : Calls Try.prog 15 #[.agg #[.int .i64 1, .int .i64 0, .int .i64 1, .int .i64 4, .int .i64 1, .int .i64 3], .int .i64 13] w fun e w' => e = .returned (.tuple #[.int .i64 3, .bool true]) ∧ Gr w w' :=
  (current_any aw0 13 w).mono fun e w' ⟨h, g⟩ => ⟨h.trans (ret_ib (by decide) (by decide)), g⟩
theorem aw_h (b : Nat) (c : Nat) (w : World) (hb : b < w.heap.size) (hc : ∀ i v, (#[Value.int .i64 1, .int .i64 0, .int .i64 1, .int .i64 4, .int .i64 1, .int .i64 3, .int .i64 2, .int .i64 0, .int .i64 1, .int .i64 6, .int .i64 0, .int .i64 1] : Array Value)[i]? = some v → w.cell? ⟨b, i, none⟩ = some v) :
    Calls Try.prog 16 #[.slice (some ⟨b, 0, none⟩) 2 c] w fun e w' => e = .returned (.tuple #[.int .i64 12, .int .i64 0]) ∧ Gr w w' := by
  have hrow : RowFl w b 0 2 awz := by
    intro j hj
    have : j = 0 ∨ j = 1 := by omega
    rcases this with rfl | rfl
    · exact ⟨hc 0 _ rfl, hc 1 _ rfl, hc 2 _ rfl, hc 3 _ rfl, hc 4 _ rfl, hc 5 _ rfl⟩
    · exact ⟨hc 6 _ rfl, hc 7 _ rfl, hc 8 _ rfl, hc 9 _ rfl, hc 10 _ rfl, hc 11 _ rfl⟩
  exact (hyper_any b 0 2 c awz w hb hrow (by decide)).mono fun e w' ⟨h, g⟩ => ⟨h.trans (ret_int2 (by decide +kernel) (by decide +kernel)), g⟩

set_option maxHeartbeats 2000000 in
theorem awake_any (w : World) :
    Calls Try.prog 10 #[] w fun e w' => e = .returned (.bool true) ∧ Gr w w' := by
  go_enter Try.func10, Try.ntmps10
  go_wp2_with (first | (go_at_call 11; refine (aw_w _).mono ?_; rintro e w' ⟨rfl, hn⟩; (first | have hg' := Gr.trans hg hn | have hg' := Gr.trans (Gr.alloc hg _) hn | have hg' := Gr.trans (Gr.drewN hg _) hn | have hg' := Gr.trans (Gr.alloc (Gr.alloc hg _) _) hn | have hg' := hn); (try clear hr hf hr2 hf2 hz hz2); (try clear hg); have hg := hg'; clear hg'; have hr := hg.rules.1; have hf := hg.rules.2; have hr2 := hn.rules.1; have hf2 := hn.rules.2; have hz := hg.size; (try simp only [World.size_alloc] at hz); have hz2 := hn.size; (try simp only [World.size_alloc] at hz2); (try clear hy1); (try clear hy2); (try clear hy3); (try have hy1 : w.heap.size < w'.heap.size := by omega); (try have hy2 : w.heap.size + 1 < w'.heap.size := by omega); (try have hy3 : w.heap.size + 1 + 1 < w'.heap.size := by omega); clear hn) | (go_at_call 13; refine (aw_d _).mono ?_; rintro e w' ⟨rfl, hn⟩; (first | have hg' := Gr.trans hg hn | have hg' := Gr.trans (Gr.alloc hg _) hn | have hg' := Gr.trans (Gr.drewN hg _) hn | have hg' := Gr.trans (Gr.alloc (Gr.alloc hg _) _) hn | have hg' := hn); (try clear hr hf hr2 hf2 hz hz2); (try clear hg); have hg := hg'; clear hg'; have hr := hg.rules.1; have hf := hg.rules.2; have hr2 := hn.rules.1; have hf2 := hn.rules.2; have hz := hg.size; (try simp only [World.size_alloc] at hz); have hz2 := hn.size; (try simp only [World.size_alloc] at hz2); (try clear hy1); (try clear hy2); (try clear hy3); (try have hy1 : w.heap.size < w'.heap.size := by omega); (try have hy2 : w.heap.size + 1 < w'.heap.size := by omega); (try have hy3 : w.heap.size + 1 + 1 < w'.heap.size := by omega); clear hn) | (go_at_call 15; refine (aw_c _).mono ?_; rintro e w' ⟨rfl, hn⟩; (first | have hg' := Gr.trans hg hn | have hg' := Gr.trans (Gr.alloc hg _) hn | have hg' := Gr.trans (Gr.drewN hg _) hn | have hg' := Gr.trans (Gr.alloc (Gr.alloc hg _) _) hn | have hg' := hn); (try clear hr hf hr2 hf2 hz hz2); (try clear hg); have hg := hg'; clear hg'; have hr := hg.rules.1; have hf := hg.rules.2; have hr2 := hn.rules.1; have hf2 := hn.rules.2; have hz := hg.size; (try simp only [World.size_alloc] at hz); have hz2 := hn.size; (try simp only [World.size_alloc] at hz2); (try clear hy1); (try clear hy2); (try clear hy3); (try have hy1 : w.heap.size < w'.heap.size := by omega); (try have hy2 : w.heap.size + 1 < w'.heap.size := by omega); (try have hy3 : w.heap.size + 1 + 1 < w'.heap.size := by omega); clear hn))
  refine (aw_h _ _ _ (by simp) (fun i v hi => by rw [World.cell?_alloc_new]; exact hi)).mono ?_
  rintro e w2 ⟨rfl, g2⟩
  go_wp2_with fail
  go_ret
  exact ⟨rfl, by repeat (first | (with_reducible exact Gr.refl _) | (with_reducible assumption) | (with_reducible refine Gr.alloc ?_ _) | (with_reducible refine Gr.drewN ?_ _) | (with_reducible refine Gr.drew ?_) | (with_reducible refine Gr.grown ?_ _ _) | (with_reducible refine Gr.regrown ?_ _ _) | (with_reducible refine Gr.setCell ?_ (by first | omega | (simp; omega) | simp) _) | (with_reducible refine Gr.trans ?_ (by with_reducible assumption)))⟩
end Go.Proofs.Ytabckmanijcndaa

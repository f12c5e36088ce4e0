/- The contract of the reference's Window. -/
import Derived.Test.YthpcngglehgfjaaR8B
import Derived.Test.YthpcngglehgfjaaClkW
namespace Go.Proofs.Ythpcngglehgfjaa
open Go.RowKit Go.Sort

set_option maxHeartbeats 400000 in
theorem rwindow_any (o d s : Int) (w : World) :
    Calls Try.prog 52 #[.agg #[.int .i64 o, .int .i64 d], .int .i64 s] w fun e w' => e = .returned (.tuple #[.int .i64 (Ck.winF o d s), .int .i64 (Ck.winT o d s), .int .i64 (Ck.winE o d s)]) ∧ Gr w w' := by
  by_cases hE : Ck.inE o d s 3221 = 0
  · obtain ⟨hs, hx, hF, hT⟩ := win_ok (o := o) (d := d) (s := s) hE
    obtain ⟨v, s0, s1⟩ := slot_valid hs
    have n1 : Ck.inN o d s 1020 = Ck.rc o d (s * 10000 + 1020) := by unfold Ck.inN Ck.reachN; rw [if_pos hs, if_pos (by omega)]
    have n2 : Ck.inN o d s 3221 = Ck.rc o d (s * 10000 + 3221) := by unfold Ck.inN Ck.reachN; rw [if_pos hs, if_pos hx]
    have hb := Ck.rc_bd o d (s * 10000 + 3221) v.d1 v.d2 hx
    obtain ⟨hb1, hb2⟩ := hb
    have HF := Lib.hid hF
    have HT := Lib.hid hT
    have HW : Hid (0 = Ck.winE o d s) := by unfold Ck.winE; exact hE.symm
    clear hF hT hs hx v
    go_enter Try.func52, Try.ntmps52
    go_wp2_with (first | (go_at_call 57; refine (rin_any _ _ _ _ (by omega) (by omega) _).mono ?_; rintro e w' ⟨rfl, hn⟩; (first | have hg' := Gr.trans hg hn | have hg' := Gr.trans (Gr.alloc hg _) hn | have hg' := Gr.trans (Gr.drewN hg _) hn | have hg' := Gr.trans (Gr.alloc (Gr.alloc hg _) _) hn | have hg' := hn); (try clear hr hf hr2 hf2 hz hz2); (try clear hg); have hg := hg'; clear hg'; have hr := hg.rules.1; have hf := hg.rules.2; have hr2 := hn.rules.1; have hf2 := hn.rules.2; have hz := hg.size; (try simp only [World.size_alloc] at hz); have hz2 := hn.size; (try simp only [World.size_alloc] at hz2); (try clear hy1); (try clear hy2); (try clear hy3); (try have hy1 : w.heap.size < w'.heap.size := by omega); (try have hy2 : w.heap.size + 1 < w'.heap.size := by omega); (try have hy3 : w.heap.size + 1 + 1 < w'.heap.size := by omega); clear hn))
    go_ret3
    exact ⟨ret_int3 HF.out.symm HT.out.symm HW.out, by repeat (first | (with_reducible exact Gr.refl _) | (with_reducible assumption) | (with_reducible refine Gr.alloc ?_ _) | (with_reducible refine Gr.drewN ?_ _) | (with_reducible refine Gr.drew ?_) | (with_reducible refine Gr.grown ?_ _ _) | (with_reducible refine Gr.setCell ?_ (by first | omega | (simp; omega) | simp) _) | (with_reducible refine Gr.trans ?_ (by with_reducible assumption)))⟩
  · have hW := Lib.hid (win_no (o := o) (d := d) (s := s) hE)
    have HW : Hid (Ck.inE o d s 3221 = Ck.winE o d s) := by unfold Ck.winE; rfl
    have hb : (Ck.inE o d s 3221 != 0) = true := by simpa using hE
    clear hE
    go_enter Try.func52, Try.ntmps52
    go_wp2_with (first | (go_at_call 57; refine (rin_any _ _ _ _ (by omega) (by omega) _).mono ?_; rintro e w' ⟨rfl, hn⟩; (first | have hg' := Gr.trans hg hn | have hg' := Gr.trans (Gr.alloc hg _) hn | have hg' := Gr.trans (Gr.drewN hg _) hn | have hg' := Gr.trans (Gr.alloc (Gr.alloc hg _) _) hn | have hg' := hn); (try clear hr hf hr2 hf2 hz hz2); (try clear hg); have hg := hg'; clear hg'; have hr := hg.rules.1; have hf := hg.rules.2; have hr2 := hn.rules.1; have hf2 := hn.rules.2; have hz := hg.size; (try simp only [World.size_alloc] at hz); have hz2 := hn.size; (try simp only [World.size_alloc] at hz2); (try clear hy1); (try clear hy2); (try clear hy3); (try have hy1 : w.heap.size < w'.heap.size := by omega); (try have hy2 : w.heap.size + 1 < w'.heap.size := by omega); (try have hy3 : w.heap.size + 1 + 1 < w'.heap.size := by omega); clear hn))
    go_ret3
    exact ⟨ret_int3 hW.out.1.symm hW.out.2.symm HW.out, by repeat (first | (with_reducible exact Gr.refl _) | (with_reducible assumption) | (with_reducible refine Gr.alloc ?_ _) | (with_reducible refine Gr.drewN ?_ _) | (with_reducible refine Gr.drew ?_) | (with_reducible refine Gr.grown ?_ _ _) | (with_reducible refine Gr.setCell ?_ (by first | omega | (simp; omega) | simp) _) | (with_reducible refine Gr.trans ?_ (by with_reducible assumption)))⟩
end Go.Proofs.Ythpcngglehgfjaa

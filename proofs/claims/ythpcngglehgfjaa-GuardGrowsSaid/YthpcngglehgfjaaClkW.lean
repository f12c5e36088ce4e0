/- The contract of clock.Window. -/
import Derived.Test.YthpcngglehgfjaaClkB
namespace Go.Proofs.Ythpcngglehgfjaa
open Go.RowKit Go.Sort

theorem win_ok {o d s : Int} (h : Ck.winE o d s = 0) : Ck.slotE o d s = 0 ∧ s * 10000 + 3221 ≤ Ck.sh o d 1099511627776 ∧ Ck.winF o d s = Ck.rc o d (s * 10000 + 1020) ∧ Ck.winT o d s = Ck.rc o d (s * 10000 + 3221) - 1 := by
  have hf : Ck.winF o d s = Ck.rc o d (s * 10000 + 1020) := by unfold Ck.winF; rw [if_pos h]
  have ht : Ck.winT o d s = Ck.rc o d (s * 10000 + 3221) - 1 := by unfold Ck.winT; rw [if_pos h]
  refine ⟨?_, ?_, hf, ht⟩
  · unfold Ck.winE Ck.inE at h
    split at h
    · assumption
    · exact h
  · unfold Ck.winE Ck.inE Ck.reachE at h
    split at h
    · split at h
      · assumption
      · exact absurd h (by decide)
    · contradiction

theorem win_no {o d s : Int} (h : Ck.winE o d s ≠ 0) : Ck.winF o d s = 0 ∧ Ck.winT o d s = 0 := by
  unfold Ck.winF Ck.winT
  exact ⟨if_neg h, if_neg h⟩

set_option maxHeartbeats 1000000 in
theorem window_any (o d s : Int) (w : World) :
    Calls Try.prog 58 #[.agg #[.int .i64 o, .int .i64 d], .int .i64 s] w fun e w' => e = .returned (.tuple #[.int .i64 (Ck.winF o d s), .int .i64 (Ck.winT o d s), .int .i64 (Ck.winE o d s)]) ∧ Gr w w' := by
  by_cases hs : Ck.slotE o d s = 0
  · obtain ⟨v, s0, s1⟩ := slot_valid hs
    have e1 : Hid (Ck.winE o d s = Ck.reachE o d (s * 10000 + 3221)) := by unfold Ck.winE Ck.inE; rw [if_pos hs]; rfl
    obtain ⟨o1, o2, d1, d2⟩ := v
    by_cases hx : s * 10000 + 2120 + 1100 + 1 ≤ Ck.sh o d 1099511627776
    · have n1 : Ck.reachN o d (s * 10000 + 2120 - 1100) = Ck.rc o d (s * 10000 + 1020) := by
        rw [show s * 10000 + 2120 - 1100 = s * 10000 + 1020 by omega]; unfold Ck.reachN; rw [if_pos (by omega)]
      have n2 : Ck.reachN o d (s * 10000 + 2120 + 1100 + 1) = Ck.rc o d (s * 10000 + 3221) := by
        rw [show s * 10000 + 2120 + 1100 + 1 = s * 10000 + 3221 by omega]; unfold Ck.reachN; rw [if_pos (by omega)]
      have r1 : Ck.reachE o d (s * 10000 + 2120 - 1100) = 0 := by unfold Ck.reachE; rw [if_pos (by omega)]
      have r2 : Ck.reachE o d (s * 10000 + 2120 + 1100 + 1) = 0 := by unfold Ck.reachE; rw [if_pos (by omega)]
      have hE : Ck.winE o d s = 0 := by rw [e1.out]; unfold Ck.reachE; rw [if_pos (by omega)]
      have hW := Lib.hid (win_ok hE)
      have hE' := Lib.hid hE
      have hb := Ck.rc_bd o d (s * 10000 + 3221) d1 d2 (by omega)
      obtain ⟨hb1, hb2⟩ := hb
      clear hE
      go_enter Try.func58, Try.ntmps58
      go_wp2_with (first | (go_at_call 48; refine (slot_any _ _ _ _).mono ?_; rintro e w' ⟨rfl, hn⟩; (first | have hg' := Gr.trans hg hn | have hg' := Gr.trans (Gr.alloc hg _) hn | have hg' := Gr.trans (Gr.drewN hg _) hn | have hg' := Gr.trans (Gr.alloc (Gr.alloc hg _) _) hn | have hg' := hn); (try clear hr hf hr2 hf2 hz hz2); (try clear hg); have hg := hg'; clear hg'; have hr := hg.rules.1; have hf := hg.rules.2; have hr2 := hn.rules.1; have hf2 := hn.rules.2; have hz := hg.size; (try simp only [World.size_alloc] at hz); have hz2 := hn.size; (try simp only [World.size_alloc] at hz2); (try clear hy1); (try clear hy2); (try clear hy3); (try have hy1 : w.heap.size < w'.heap.size := by omega); (try have hy2 : w.heap.size + 1 < w'.heap.size := by omega); (try have hy3 : w.heap.size + 1 + 1 < w'.heap.size := by omega); clear hn) | (go_at_call 47; refine (of_any _ _ _).mono ?_; rintro e w' ⟨rfl, ⟨c0, c1⟩, hz, hn⟩; have hq := Lib.hid (And.intro c0 (And.intro c1 hz)); clear c0 c1 hz; (first | have hg' := Gr.trans hg hn | have hg' := Gr.trans (Gr.alloc hg _) hn | have hg' := Gr.trans (Gr.drewN hg _) hn | have hg' := Gr.trans (Gr.alloc (Gr.alloc hg _) _) hn | have hg' := hn); (try clear hr hf hr2 hf2 hz hz2); (try clear hg); have hg := hg'; clear hg'; have hr := hg.rules.1; have hf := hg.rules.2; have hr2 := hn.rules.1; have hf2 := hn.rules.2; have hz := hg.size; (try simp only [World.size_alloc] at hz); have hz2 := hn.size; (try simp only [World.size_alloc] at hz2); (try clear hy1); (try clear hy2); (try clear hy3); (try have hy1 : w.heap.size < w'.heap.size := by omega); (try have hy2 : w.heap.size + 1 < w'.heap.size := by omega); (try have hy3 : w.heap.size + 1 + 1 < w'.heap.size := by omega); clear hn) | (go_at_call 49; refine (reach_any o d _ _ o1 o2 d1 d2 _ hq.out.1 hq.out.2.1 hq.out.2.2).mono ?_; rintro e w' ⟨rfl, hn⟩; clear hq; (first | have hg' := Gr.trans hg hn | have hg' := Gr.trans (Gr.alloc hg _) hn | have hg' := Gr.trans (Gr.drewN hg _) hn | have hg' := Gr.trans (Gr.alloc (Gr.alloc hg _) _) hn | have hg' := hn); (try clear hr hf hr2 hf2 hz hz2); (try clear hg); have hg := hg'; clear hg'; have hr := hg.rules.1; have hf := hg.rules.2; have hr2 := hn.rules.1; have hf2 := hn.rules.2; have hz := hg.size; (try simp only [World.size_alloc] at hz); have hz2 := hn.size; (try simp only [World.size_alloc] at hz2); (try clear hy1); (try clear hy2); (try clear hy3); (try have hy1 : w.heap.size < w'.heap.size := by omega); (try have hy2 : w.heap.size + 1 < w'.heap.size := by omega); (try have hy3 : w.heap.size + 1 + 1 < w'.heap.size := by omega); clear hn))
      go_ret3
      exact ⟨ret_int3 hW.out.2.2.1.symm hW.out.2.2.2.symm hE'.out.symm, by repeat (first | (with_reducible exact Gr.refl _) | (with_reducible assumption) | (with_reducible refine Gr.alloc ?_ _) | (with_reducible refine Gr.drewN ?_ _) | (with_reducible refine Gr.drew ?_) | (with_reducible refine Gr.grown ?_ _ _) | (with_reducible refine Gr.setCell ?_ (by first | omega | (simp; omega) | simp) _) | (with_reducible refine Gr.trans ?_ (by with_reducible assumption)))⟩
    · have r2 : Ck.reachE o d (s * 10000 + 2120 + 1100 + 1) = 15 := by unfold Ck.reachE; rw [if_neg hx]
      have hE : Ck.winE o d s = 15 := by rw [e1.out]; unfold Ck.reachE; rw [if_neg (by omega)]
      have hW := Lib.hid (win_no (o := o) (d := d) (s := s) (by omega))
      have hE' := Lib.hid hE
      clear hE
      by_cases hy : s * 10000 + 2120 - 1100 ≤ Ck.sh o d 1099511627776
      · have r1 : Ck.reachE o d (s * 10000 + 2120 - 1100) = 0 := by unfold Ck.reachE; rw [if_pos (by omega)]
        go_enter Try.func58, Try.ntmps58
        go_wp2_with (first | (go_at_call 48; refine (slot_any _ _ _ _).mono ?_; rintro e w' ⟨rfl, hn⟩; (first | have hg' := Gr.trans hg hn | have hg' := Gr.trans (Gr.alloc hg _) hn | have hg' := Gr.trans (Gr.drewN hg _) hn | have hg' := Gr.trans (Gr.alloc (Gr.alloc hg _) _) hn | have hg' := hn); (try clear hr hf hr2 hf2 hz hz2); (try clear hg); have hg := hg'; clear hg'; have hr := hg.rules.1; have hf := hg.rules.2; have hr2 := hn.rules.1; have hf2 := hn.rules.2; have hz := hg.size; (try simp only [World.size_alloc] at hz); have hz2 := hn.size; (try simp only [World.size_alloc] at hz2); (try clear hy1); (try clear hy2); (try clear hy3); (try have hy1 : w.heap.size < w'.heap.size := by omega); (try have hy2 : w.heap.size + 1 < w'.heap.size := by omega); (try have hy3 : w.heap.size + 1 + 1 < w'.heap.size := by omega); clear hn) | (go_at_call 47; refine (of_any _ _ _).mono ?_; rintro e w' ⟨rfl, ⟨c0, c1⟩, hz, hn⟩; have hq := Lib.hid (And.intro c0 (And.intro c1 hz)); clear c0 c1 hz; (first | have hg' := Gr.trans hg hn | have hg' := Gr.trans (Gr.alloc hg _) hn | have hg' := Gr.trans (Gr.drewN hg _) hn | have hg' := Gr.trans (Gr.alloc (Gr.alloc hg _) _) hn | have hg' := hn); (try clear hr hf hr2 hf2 hz hz2); (try clear hg); have hg := hg'; clear hg'; have hr := hg.rules.1; have hf := hg.rules.2; have hr2 := hn.rules.1; have hf2 := hn.rules.2; have hz := hg.size; (try simp only [World.size_alloc] at hz); have hz2 := hn.size; (try simp only [World.size_alloc] at hz2); (try clear hy1); (try clear hy2); (try clear hy3); (try have hy1 : w.heap.size < w'.heap.size := by omega); (try have hy2 : w.heap.size + 1 < w'.heap.size := by omega); (try have hy3 : w.heap.size + 1 + 1 < w'.heap.size := by omega); clear hn) | (go_at_call 49; refine (reach_any o d _ _ o1 o2 d1 d2 _ hq.out.1 hq.out.2.1 hq.out.2.2).mono ?_; rintro e w' ⟨rfl, hn⟩; clear hq; (first | have hg' := Gr.trans hg hn | have hg' := Gr.trans (Gr.alloc hg _) hn | have hg' := Gr.trans (Gr.drewN hg _) hn | have hg' := Gr.trans (Gr.alloc (Gr.alloc hg _) _) hn | have hg' := hn); (try clear hr hf hr2 hf2 hz hz2); (try clear hg); have hg := hg'; clear hg'; have hr := hg.rules.1; have hf := hg.rules.2; have hr2 := hn.rules.1; have hf2 := hn.rules.2; have hz := hg.size; (try simp only [World.size_alloc] at hz); have hz2 := hn.size; (try simp only [World.size_alloc] at hz2); (try clear hy1); (try clear hy2); (try clear hy3); (try have hy1 : w.heap.size < w'.heap.size := by omega); (try have hy2 : w.heap.size + 1 < w'.heap.size := by omega); (try have hy3 : w.heap.size + 1 + 1 < w'.heap.size := by omega); clear hn))
        go_ret3
        exact ⟨ret_int3 hW.out.1.symm hW.out.2.symm hE'.out.symm, by repeat (first | (with_reducible exact Gr.refl _) | (with_reducible assumption) | (with_reducible refine Gr.alloc ?_ _) | (with_reducible refine Gr.drewN ?_ _) | (with_reducible refine Gr.drew ?_) | (with_reducible refine Gr.grown ?_ _ _) | (with_reducible refine Gr.setCell ?_ (by first | omega | (simp; omega) | simp) _) | (with_reducible refine Gr.trans ?_ (by with_reducible assumption)))⟩
      · have r1 : Ck.reachE o d (s * 10000 + 2120 - 1100) = 15 := by unfold Ck.reachE; rw [if_neg (by omega)]
        go_enter Try.func58, Try.ntmps58
        go_wp2_with (first | (go_at_call 48; refine (slot_any _ _ _ _).mono ?_; rintro e w' ⟨rfl, hn⟩; (first | have hg' := Gr.trans hg hn | have hg' := Gr.trans (Gr.alloc hg _) hn | have hg' := Gr.trans (Gr.drewN hg _) hn | have hg' := Gr.trans (Gr.alloc (Gr.alloc hg _) _) hn | have hg' := hn); (try clear hr hf hr2 hf2 hz hz2); (try clear hg); have hg := hg'; clear hg'; have hr := hg.rules.1; have hf := hg.rules.2; have hr2 := hn.rules.1; have hf2 := hn.rules.2; have hz := hg.size; (try simp only [World.size_alloc] at hz); have hz2 := hn.size; (try simp only [World.size_alloc] at hz2); (try clear hy1); (try clear hy2); (try clear hy3); (try have hy1 : w.heap.size < w'.heap.size := by omega); (try have hy2 : w.heap.size + 1 < w'.heap.size := by omega); (try have hy3 : w.heap.size + 1 + 1 < w'.heap.size := by omega); clear hn) | (go_at_call 47; refine (of_any _ _ _).mono ?_; rintro e w' ⟨rfl, ⟨c0, c1⟩, hz, hn⟩; have hq := Lib.hid (And.intro c0 (And.intro c1 hz)); clear c0 c1 hz; (first | have hg' := Gr.trans hg hn | have hg' := Gr.trans (Gr.alloc hg _) hn | have hg' := Gr.trans (Gr.drewN hg _) hn | have hg' := Gr.trans (Gr.alloc (Gr.alloc hg _) _) hn | have hg' := hn); (try clear hr hf hr2 hf2 hz hz2); (try clear hg); have hg := hg'; clear hg'; have hr := hg.rules.1; have hf := hg.rules.2; have hr2 := hn.rules.1; have hf2 := hn.rules.2; have hz := hg.size; (try simp only [World.size_alloc] at hz); have hz2 := hn.size; (try simp only [World.size_alloc] at hz2); (try clear hy1); (try clear hy2); (try clear hy3); (try have hy1 : w.heap.size < w'.heap.size := by omega); (try have hy2 : w.heap.size + 1 < w'.heap.size := by omega); (try have hy3 : w.heap.size + 1 + 1 < w'.heap.size := by omega); clear hn) | (go_at_call 49; refine (reach_any o d _ _ o1 o2 d1 d2 _ hq.out.1 hq.out.2.1 hq.out.2.2).mono ?_; rintro e w' ⟨rfl, hn⟩; clear hq; (first | have hg' := Gr.trans hg hn | have hg' := Gr.trans (Gr.alloc hg _) hn | have hg' := Gr.trans (Gr.drewN hg _) hn | have hg' := Gr.trans (Gr.alloc (Gr.alloc hg _) _) hn | have hg' := hn); (try clear hr hf hr2 hf2 hz hz2); (try clear hg); have hg := hg'; clear hg'; have hr := hg.rules.1; have hf := hg.rules.2; have hr2 := hn.rules.1; have hf2 := hn.rules.2; have hz := hg.size; (try simp only [World.size_alloc] at hz); have hz2 := hn.size; (try simp only [World.size_alloc] at hz2); (try clear hy1); (try clear hy2); (try clear hy3); (try have hy1 : w.heap.size < w'.heap.size := by omega); (try have hy2 : w.heap.size + 1 < w'.heap.size := by omega); (try have hy3 : w.heap.size + 1 + 1 < w'.heap.size := by omega); clear hn))
        go_ret3
        exact ⟨ret_int3 hW.out.1.symm hW.out.2.symm hE'.out.symm, by repeat (first | (with_reducible exact Gr.refl _) | (with_reducible assumption) | (with_reducible refine Gr.alloc ?_ _) | (with_reducible refine Gr.drewN ?_ _) | (with_reducible refine Gr.drew ?_) | (with_reducible refine Gr.grown ?_ _ _) | (with_reducible refine Gr.setCell ?_ (by first | omega | (simp; omega) | simp) _) | (with_reducible refine Gr.trans ?_ (by with_reducible assumption)))⟩
  · have hE : Hid (Ck.slotE o d s = Ck.winE o d s) := by unfold Ck.winE Ck.inE; rw [if_neg hs]; rfl
    have hW := Lib.hid (win_no (o := o) (d := d) (s := s) (by rw [← hE.out]; exact hs))
    have hb : (Ck.slotE o d s != 0) = true := by simpa using hs
    clear hs
    go_enter Try.func58, Try.ntmps58
    go_wp2_with (first | (go_at_call 48; refine (slot_any _ _ _ _).mono ?_; rintro e w' ⟨rfl, hn⟩; (first | have hg' := Gr.trans hg hn | have hg' := Gr.trans (Gr.alloc hg _) hn | have hg' := Gr.trans (Gr.drewN hg _) hn | have hg' := Gr.trans (Gr.alloc (Gr.alloc hg _) _) hn | have hg' := hn); (try clear hr hf hr2 hf2 hz hz2); (try clear hg); have hg := hg'; clear hg'; have hr := hg.rules.1; have hf := hg.rules.2; have hr2 := hn.rules.1; have hf2 := hn.rules.2; have hz := hg.size; (try simp only [World.size_alloc] at hz); have hz2 := hn.size; (try simp only [World.size_alloc] at hz2); (try clear hy1); (try clear hy2); (try clear hy3); (try have hy1 : w.heap.size < w'.heap.size := by omega); (try have hy2 : w.heap.size + 1 < w'.heap.size := by omega); (try have hy3 : w.heap.size + 1 + 1 < w'.heap.size := by omega); clear hn))
    go_ret3
    exact ⟨ret_int3 hW.out.1.symm hW.out.2.symm hE.out, by repeat (first | (with_reducible exact Gr.refl _) | (with_reducible assumption) | (with_reducible refine Gr.alloc ?_ _) | (with_reducible refine Gr.drewN ?_ _) | (with_reducible refine Gr.drew ?_) | (with_reducible refine Gr.grown ?_ _ _) | (with_reducible refine Gr.setCell ?_ (by first | omega | (simp; omega) | simp) _) | (with_reducible refine Gr.trans ?_ (by with_reducible assumption)))⟩
end Go.Proofs.Ythpcngglehgfjaa

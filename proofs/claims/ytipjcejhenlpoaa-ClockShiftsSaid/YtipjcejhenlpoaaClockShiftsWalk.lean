/- The walk of ClockShifts: the Go text returns true. -/
import Derived.Test.YtipjcejhenlpoaaClkAwake
import Derived.Test.YtipjcejhenlpoaaClkLaws
namespace Go.Proofs.Ytipjcejhenlpoaa.clockShifts
open Go.RowKit Go.Sort
set_option linter.unusedVariables false

theorem sh_adj (o d n t : Int) : Ck.sh (o + n) d t = Ck.sh o d t + n := by unfold Ck.sh; omega

set_option maxHeartbeats 2000000 in
theorem walk (oa da ob db n t : Int) (woa : (Lit.int .i64 oa).wf = true) (wda : (Lit.int .i64 da).wf = true) (wob : (Lit.int .i64 ob).wf = true) (wdb : (Lit.int .i64 db).wf = true) (wn : (Lit.int .i64 n).wf = true) (wt : (Lit.int .i64 t).wf = true) (w : World) :
    Calls Try.prog 10 #[.agg #[.int .i64 oa, .int .i64 da], .agg #[.int .i64 ob, .int .i64 db], .agg #[.int .i64 n, .int .i64 t]] w fun e w' => e = .returned (.bool true) ∧ Gr w w' := by
  rcases Ck.show_ways oa da t with ⟨v, h0, h1, na, ea, ca⟩ | ⟨v, h0, na, ea, ca⟩ | ⟨v, na, ea, ca⟩
  · obtain ⟨s1, s2⟩ := Ck.sh_bd oa da t v h0 h1
    by_cases hA : Ck.adjOk oa da n
    · obtain ⟨_, r1, r2, c2⟩ := hA
      obtain ⟨j1, j2, j3⟩ := Ck.adj_ok ca r1 r2 c2
      obtain ⟨k1, k2, k3⟩ := Ck.adj_ok (o := oa + n) (d := da) (n := -n) c2 (by omega) (by omega) (by rw [show oa + n + -n = oa by omega]; exact ca)
      rw [show oa + n + -n = oa by omega] at k1
      obtain ⟨y1, y2⟩ := Ck.show_ok c2 h0 h1
      rw [sh_adj] at y1
      rcases Ck.chk_01 ob db with ⟨cb, vb⟩ | ⟨cb, vb⟩
      · obtain ⟨zb, ze⟩ := Ck.show_ok cb h0 h1
        obtain ⟨m1, m2⟩ := Ck.apa_ok ca cb h0 h1
        obtain ⟨m3, m4⟩ := Ck.apa_ok cb ca h0 h1
        obtain ⟨s3, s4⟩ := Ck.sh_bd ob db t vb h0 h1
        go_enter Try.func10, Try.ntmps10
        go_wp2_with fail; refine (awake_any _).mono ?_; rintro e w1 ⟨rfl, g1⟩
        have hr := g1.rules.1
        go_wp2_with fail
        go_quiet (fail)
        go_wp2_with fail; refine (adjust_any _ _ _ _).mono ?_; rintro e w2 ⟨rfl, g2⟩
        have G2 := (Gr.drewN g1 _).trans g2
        clear hr
        have hr := G2.rules.1
        have z2 := G2.size
        simp only [World.size_alloc] at z2
        have hy1 : w.heap.size < w2.heap.size := by omega
        have hy2 : w.heap.size + 1 < w2.heap.size := by omega
        go_wp2_with fail; refine (show_any _ _ _ _).mono ?_; rintro e w3 ⟨rfl, g3⟩
        have G3 := (Gr.alloc G2 _).trans g3
        have z3 := g3.size
        simp only [World.size_alloc] at z3
        clear hr hy1 hy2
        have hr := G3.rules.1
        have hy1 : w.heap.size < w3.heap.size := by omega
        have hy2 : w.heap.size + 1 < w3.heap.size := by omega
        have c0 : w3.cell? ⟨w2.heap.size, 0, none⟩ = some (.int .i64 (oa + n)) := Eq.trans (Gr.cell g3 (by first | (simp; done) | (simp; omega) | omega)) (by go_simp); have c1 : w3.cell? ⟨w2.heap.size, 1, none⟩ = some (.int .i64 da) := Eq.trans (Gr.cell g3 (by first | (simp; done) | (simp; omega) | omega)) (by go_simp)
        go_wp2_with fail; refine (show_any _ _ _ _).mono ?_; rintro e w4 ⟨rfl, g4⟩
        have G4 := G3.trans g4
        clear hr hy1 hy2
        have hr := G4.rules.1
        have e0 : w4.cell? ⟨w2.heap.size, 0, none⟩ = some (.int .i64 (oa + n)) := Eq.trans (Gr.cell g4 (by first | (simp; done) | (simp; omega) | omega)) (by go_simp); have e1 : w4.cell? ⟨w2.heap.size, 1, none⟩ = some (.int .i64 da) := Eq.trans (Gr.cell g4 (by first | (simp; done) | (simp; omega) | omega)) (by go_simp)
        clear c0 c1
        go_wp2_with fail; refine (adjust_any _ _ _ _).mono ?_; rintro e w5 ⟨rfl, g5⟩
        have hg := G4.trans g5
        clear hr e0 e1
        have hr := hg.rules.1
        have z5 := hg.size
        simp only [World.size_alloc] at z5
        have hy1 : w.heap.size < w5.heap.size := by omega
        have hy2 : w.heap.size + 1 < w5.heap.size := by omega
        clear g1 g2 g3 g4 g5 G2 G3 G4 z2 z3
        go_wp2_with (first | (go_at_call 12; refine (show_any _ _ _ _).mono ?_; rintro e w' ⟨rfl, hn⟩; (first | have hg' := Gr.trans hg hn | have hg' := Gr.trans (Gr.alloc hg _) hn | have hg' := Gr.trans (Gr.drewN hg _) hn | have hg' := Gr.trans (Gr.alloc (Gr.alloc hg _) _) hn | have hg' := hn); (try clear hr hf hr2 hf2 hz hz2); (try clear hg); have hg := hg'; clear hg'; have hr := hg.rules.1; have hf := hg.rules.2; have hr2 := hn.rules.1; have hf2 := hn.rules.2; have hz := hg.size; (try simp only [World.size_alloc] at hz); have hz2 := hn.size; (try simp only [World.size_alloc] at hz2); (try clear hy1); (try clear hy2); (try clear hy3); (try have hy1 : w.heap.size < w'.heap.size := by omega); (try have hy2 : w.heap.size + 1 < w'.heap.size := by omega); (try have hy3 : w.heap.size + 1 + 1 < w'.heap.size := by omega); clear hn) | (go_at_call 28; refine (apart_any _ _ _ _ _ _).mono ?_; rintro e w' ⟨rfl, hn⟩; (first | have hg' := Gr.trans hg hn | have hg' := Gr.trans (Gr.alloc hg _) hn | have hg' := Gr.trans (Gr.drewN hg _) hn | have hg' := Gr.trans (Gr.alloc (Gr.alloc hg _) _) hn | have hg' := hn); (try clear hr hf hr2 hf2 hz hz2); (try clear hg); have hg := hg'; clear hg'; have hr := hg.rules.1; have hf := hg.rules.2; have hr2 := hn.rules.1; have hf2 := hn.rules.2; have hz := hg.size; (try simp only [World.size_alloc] at hz); have hz2 := hn.size; (try simp only [World.size_alloc] at hz2); (try clear hy1); (try clear hy2); (try clear hy3); (try have hy1 : w.heap.size < w'.heap.size := by omega); (try have hy2 : w.heap.size + 1 < w'.heap.size := by omega); (try have hy3 : w.heap.size + 1 + 1 < w'.heap.size := by omega); clear hn))
        go_ret
        exact ⟨by first | rfl | (show Ending.returned (Value.bool _) = _; exact ret_bool (by simp; omega)), by repeat (first | (with_reducible exact Gr.refl _) | (with_reducible assumption) | (with_reducible refine Gr.alloc ?_ _) | (with_reducible refine Gr.drewN ?_ _) | (with_reducible refine Gr.drew ?_) | (with_reducible refine Gr.grown ?_ _ _) | (with_reducible refine Gr.setCell ?_ (by first | omega | (simp; omega) | simp) _) | (with_reducible refine Gr.trans ?_ (by with_reducible assumption)))⟩
      · obtain ⟨zb, ze⟩ := Ck.show_bad (t := t) cb
        obtain ⟨m1, m2⟩ := Ck.apa_bad (oa := oa) (da := da) (ob := ob) (db := db) (t := t) (fun h => by have := h.2; omega)
        obtain ⟨m3, m4⟩ := Ck.apa_bad (oa := ob) (da := db) (ob := oa) (db := da) (t := t) (fun h => by have := h.1; omega)
        go_enter Try.func10, Try.ntmps10
        go_wp2_with fail; refine (awake_any _).mono ?_; rintro e w1 ⟨rfl, g1⟩
        have hr := g1.rules.1
        go_wp2_with fail
        go_quiet (fail)
        go_wp2_with fail; refine (adjust_any _ _ _ _).mono ?_; rintro e w2 ⟨rfl, g2⟩
        have G2 := (Gr.drewN g1 _).trans g2
        clear hr
        have hr := G2.rules.1
        have z2 := G2.size
        simp only [World.size_alloc] at z2
        have hy1 : w.heap.size < w2.heap.size := by omega
        have hy2 : w.heap.size + 1 < w2.heap.size := by omega
        go_wp2_with fail; refine (show_any _ _ _ _).mono ?_; rintro e w3 ⟨rfl, g3⟩
        have G3 := (Gr.alloc G2 _).trans g3
        have z3 := g3.size
        simp only [World.size_alloc] at z3
        clear hr hy1 hy2
        have hr := G3.rules.1
        have hy1 : w.heap.size < w3.heap.size := by omega
        have hy2 : w.heap.size + 1 < w3.heap.size := by omega
        have c0 : w3.cell? ⟨w2.heap.size, 0, none⟩ = some (.int .i64 (oa + n)) := Eq.trans (Gr.cell g3 (by first | (simp; done) | (simp; omega) | omega)) (by go_simp); have c1 : w3.cell? ⟨w2.heap.size, 1, none⟩ = some (.int .i64 da) := Eq.trans (Gr.cell g3 (by first | (simp; done) | (simp; omega) | omega)) (by go_simp)
        go_wp2_with fail; refine (show_any _ _ _ _).mono ?_; rintro e w4 ⟨rfl, g4⟩
        have G4 := G3.trans g4
        clear hr hy1 hy2
        have hr := G4.rules.1
        have e0 : w4.cell? ⟨w2.heap.size, 0, none⟩ = some (.int .i64 (oa + n)) := Eq.trans (Gr.cell g4 (by first | (simp; done) | (simp; omega) | omega)) (by go_simp); have e1 : w4.cell? ⟨w2.heap.size, 1, none⟩ = some (.int .i64 da) := Eq.trans (Gr.cell g4 (by first | (simp; done) | (simp; omega) | omega)) (by go_simp)
        clear c0 c1
        go_wp2_with fail; refine (adjust_any _ _ _ _).mono ?_; rintro e w5 ⟨rfl, g5⟩
        have hg := G4.trans g5
        clear hr e0 e1
        have hr := hg.rules.1
        have z5 := hg.size
        simp only [World.size_alloc] at z5
        have hy1 : w.heap.size < w5.heap.size := by omega
        have hy2 : w.heap.size + 1 < w5.heap.size := by omega
        clear g1 g2 g3 g4 g5 G2 G3 G4 z2 z3
        go_wp2_with (first | (go_at_call 12; refine (show_any _ _ _ _).mono ?_; rintro e w' ⟨rfl, hn⟩; (first | have hg' := Gr.trans hg hn | have hg' := Gr.trans (Gr.alloc hg _) hn | have hg' := Gr.trans (Gr.drewN hg _) hn | have hg' := Gr.trans (Gr.alloc (Gr.alloc hg _) _) hn | have hg' := hn); (try clear hr hf hr2 hf2 hz hz2); (try clear hg); have hg := hg'; clear hg'; have hr := hg.rules.1; have hf := hg.rules.2; have hr2 := hn.rules.1; have hf2 := hn.rules.2; have hz := hg.size; (try simp only [World.size_alloc] at hz); have hz2 := hn.size; (try simp only [World.size_alloc] at hz2); (try clear hy1); (try clear hy2); (try clear hy3); (try have hy1 : w.heap.size < w'.heap.size := by omega); (try have hy2 : w.heap.size + 1 < w'.heap.size := by omega); (try have hy3 : w.heap.size + 1 + 1 < w'.heap.size := by omega); clear hn) | (go_at_call 28; refine (apart_any _ _ _ _ _ _).mono ?_; rintro e w' ⟨rfl, hn⟩; (first | have hg' := Gr.trans hg hn | have hg' := Gr.trans (Gr.alloc hg _) hn | have hg' := Gr.trans (Gr.drewN hg _) hn | have hg' := Gr.trans (Gr.alloc (Gr.alloc hg _) _) hn | have hg' := hn); (try clear hr hf hr2 hf2 hz hz2); (try clear hg); have hg := hg'; clear hg'; have hr := hg.rules.1; have hf := hg.rules.2; have hr2 := hn.rules.1; have hf2 := hn.rules.2; have hz := hg.size; (try simp only [World.size_alloc] at hz); have hz2 := hn.size; (try simp only [World.size_alloc] at hz2); (try clear hy1); (try clear hy2); (try clear hy3); (try have hy1 : w.heap.size < w'.heap.size := by omega); (try have hy2 : w.heap.size + 1 < w'.heap.size := by omega); (try have hy3 : w.heap.size + 1 + 1 < w'.heap.size := by omega); clear hn))
        go_ret
        exact ⟨by first | rfl | (show Ending.returned (Value.bool _) = _; exact ret_bool (by simp; omega)), by repeat (first | (with_reducible exact Gr.refl _) | (with_reducible assumption) | (with_reducible refine Gr.alloc ?_ _) | (with_reducible refine Gr.drewN ?_ _) | (with_reducible refine Gr.drew ?_) | (with_reducible refine Gr.grown ?_ _ _) | (with_reducible refine Gr.setCell ?_ (by first | omega | (simp; omega) | simp) _) | (with_reducible refine Gr.trans ?_ (by with_reducible assumption)))⟩
    · obtain ⟨j1, j2, j3⟩ := Ck.adj_no hA
      rcases Ck.chk_01 ob db with ⟨cb, vb⟩ | ⟨cb, vb⟩
      · obtain ⟨zb, ze⟩ := Ck.show_ok cb h0 h1
        obtain ⟨m1, m2⟩ := Ck.apa_ok ca cb h0 h1
        obtain ⟨m3, m4⟩ := Ck.apa_ok cb ca h0 h1
        obtain ⟨s3, s4⟩ := Ck.sh_bd ob db t vb h0 h1
        clear hA
        go_enter Try.func10, Try.ntmps10
        go_wp2_with (first | (go_at_call 11; refine (awake_any _).mono ?_; rintro e w' ⟨rfl, hn⟩; (first | have hg' := Gr.trans hg hn | have hg' := Gr.trans (Gr.alloc hg _) hn | have hg' := Gr.trans (Gr.drewN hg _) hn | have hg' := Gr.trans (Gr.alloc (Gr.alloc hg _) _) hn | have hg' := hn); (try clear hr hf hr2 hf2 hz hz2); (try clear hg); have hg := hg'; clear hg'; have hr := hg.rules.1; have hf := hg.rules.2; have hr2 := hn.rules.1; have hf2 := hn.rules.2; have hz := hg.size; (try simp only [World.size_alloc] at hz); have hz2 := hn.size; (try simp only [World.size_alloc] at hz2); (try clear hy1); (try clear hy2); (try clear hy3); (try have hy1 : w.heap.size < w'.heap.size := by omega); (try have hy2 : w.heap.size + 1 < w'.heap.size := by omega); (try have hy3 : w.heap.size + 1 + 1 < w'.heap.size := by omega); clear hn))
        go_quiet (fail)
        go_wp2_with (first | (go_at_call 12; refine (show_any _ _ _ _).mono ?_; rintro e w' ⟨rfl, hn⟩; (first | have hg' := Gr.trans hg hn | have hg' := Gr.trans (Gr.alloc hg _) hn | have hg' := Gr.trans (Gr.drewN hg _) hn | have hg' := Gr.trans (Gr.alloc (Gr.alloc hg _) _) hn | have hg' := hn); (try clear hr hf hr2 hf2 hz hz2); (try clear hg); have hg := hg'; clear hg'; have hr := hg.rules.1; have hf := hg.rules.2; have hr2 := hn.rules.1; have hf2 := hn.rules.2; have hz := hg.size; (try simp only [World.size_alloc] at hz); have hz2 := hn.size; (try simp only [World.size_alloc] at hz2); (try clear hy1); (try clear hy2); (try clear hy3); (try have hy1 : w.heap.size < w'.heap.size := by omega); (try have hy2 : w.heap.size + 1 < w'.heap.size := by omega); (try have hy3 : w.heap.size + 1 + 1 < w'.heap.size := by omega); clear hn) | (go_at_call 26; refine (adjust_any _ _ _ _).mono ?_; rintro e w' ⟨rfl, hn⟩; (first | have hg' := Gr.trans hg hn | have hg' := Gr.trans (Gr.alloc hg _) hn | have hg' := Gr.trans (Gr.drewN hg _) hn | have hg' := Gr.trans (Gr.alloc (Gr.alloc hg _) _) hn | have hg' := hn); (try clear hr hf hr2 hf2 hz hz2); (try clear hg); have hg := hg'; clear hg'; have hr := hg.rules.1; have hf := hg.rules.2; have hr2 := hn.rules.1; have hf2 := hn.rules.2; have hz := hg.size; (try simp only [World.size_alloc] at hz); have hz2 := hn.size; (try simp only [World.size_alloc] at hz2); (try clear hy1); (try clear hy2); (try clear hy3); (try have hy1 : w.heap.size < w'.heap.size := by omega); (try have hy2 : w.heap.size + 1 < w'.heap.size := by omega); (try have hy3 : w.heap.size + 1 + 1 < w'.heap.size := by omega); clear hn) | (go_at_call 28; refine (apart_any _ _ _ _ _ _).mono ?_; rintro e w' ⟨rfl, hn⟩; (first | have hg' := Gr.trans hg hn | have hg' := Gr.trans (Gr.alloc hg _) hn | have hg' := Gr.trans (Gr.drewN hg _) hn | have hg' := Gr.trans (Gr.alloc (Gr.alloc hg _) _) hn | have hg' := hn); (try clear hr hf hr2 hf2 hz hz2); (try clear hg); have hg := hg'; clear hg'; have hr := hg.rules.1; have hf := hg.rules.2; have hr2 := hn.rules.1; have hf2 := hn.rules.2; have hz := hg.size; (try simp only [World.size_alloc] at hz); have hz2 := hn.size; (try simp only [World.size_alloc] at hz2); (try clear hy1); (try clear hy2); (try clear hy3); (try have hy1 : w.heap.size < w'.heap.size := by omega); (try have hy2 : w.heap.size + 1 < w'.heap.size := by omega); (try have hy3 : w.heap.size + 1 + 1 < w'.heap.size := by omega); clear hn))
        go_ret
        exact ⟨by first | rfl | (show Ending.returned (Value.bool _) = _; exact ret_bool (by simp; omega)), by repeat (first | (with_reducible exact Gr.refl _) | (with_reducible assumption) | (with_reducible refine Gr.alloc ?_ _) | (with_reducible refine Gr.drewN ?_ _) | (with_reducible refine Gr.drew ?_) | (with_reducible refine Gr.grown ?_ _ _) | (with_reducible refine Gr.setCell ?_ (by first | omega | (simp; omega) | simp) _) | (with_reducible refine Gr.trans ?_ (by with_reducible assumption)))⟩
      · obtain ⟨zb, ze⟩ := Ck.show_bad (t := t) cb
        obtain ⟨m1, m2⟩ := Ck.apa_bad (oa := oa) (da := da) (ob := ob) (db := db) (t := t) (fun h => by have := h.2; omega)
        obtain ⟨m3, m4⟩ := Ck.apa_bad (oa := ob) (da := db) (ob := oa) (db := da) (t := t) (fun h => by have := h.1; omega)
        clear hA
        go_enter Try.func10, Try.ntmps10
        go_wp2_with (first | (go_at_call 11; refine (awake_any _).mono ?_; rintro e w' ⟨rfl, hn⟩; (first | have hg' := Gr.trans hg hn | have hg' := Gr.trans (Gr.alloc hg _) hn | have hg' := Gr.trans (Gr.drewN hg _) hn | have hg' := Gr.trans (Gr.alloc (Gr.alloc hg _) _) hn | have hg' := hn); (try clear hr hf hr2 hf2 hz hz2); (try clear hg); have hg := hg'; clear hg'; have hr := hg.rules.1; have hf := hg.rules.2; have hr2 := hn.rules.1; have hf2 := hn.rules.2; have hz := hg.size; (try simp only [World.size_alloc] at hz); have hz2 := hn.size; (try simp only [World.size_alloc] at hz2); (try clear hy1); (try clear hy2); (try clear hy3); (try have hy1 : w.heap.size < w'.heap.size := by omega); (try have hy2 : w.heap.size + 1 < w'.heap.size := by omega); (try have hy3 : w.heap.size + 1 + 1 < w'.heap.size := by omega); clear hn))
        go_quiet (fail)
        go_wp2_with (first | (go_at_call 12; refine (show_any _ _ _ _).mono ?_; rintro e w' ⟨rfl, hn⟩; (first | have hg' := Gr.trans hg hn | have hg' := Gr.trans (Gr.alloc hg _) hn | have hg' := Gr.trans (Gr.drewN hg _) hn | have hg' := Gr.trans (Gr.alloc (Gr.alloc hg _) _) hn | have hg' := hn); (try clear hr hf hr2 hf2 hz hz2); (try clear hg); have hg := hg'; clear hg'; have hr := hg.rules.1; have hf := hg.rules.2; have hr2 := hn.rules.1; have hf2 := hn.rules.2; have hz := hg.size; (try simp only [World.size_alloc] at hz); have hz2 := hn.size; (try simp only [World.size_alloc] at hz2); (try clear hy1); (try clear hy2); (try clear hy3); (try have hy1 : w.heap.size < w'.heap.size := by omega); (try have hy2 : w.heap.size + 1 < w'.heap.size := by omega); (try have hy3 : w.heap.size + 1 + 1 < w'.heap.size := by omega); clear hn) | (go_at_call 26; refine (adjust_any _ _ _ _).mono ?_; rintro e w' ⟨rfl, hn⟩; (first | have hg' := Gr.trans hg hn | have hg' := Gr.trans (Gr.alloc hg _) hn | have hg' := Gr.trans (Gr.drewN hg _) hn | have hg' := Gr.trans (Gr.alloc (Gr.alloc hg _) _) hn | have hg' := hn); (try clear hr hf hr2 hf2 hz hz2); (try clear hg); have hg := hg'; clear hg'; have hr := hg.rules.1; have hf := hg.rules.2; have hr2 := hn.rules.1; have hf2 := hn.rules.2; have hz := hg.size; (try simp only [World.size_alloc] at hz); have hz2 := hn.size; (try simp only [World.size_alloc] at hz2); (try clear hy1); (try clear hy2); (try clear hy3); (try have hy1 : w.heap.size < w'.heap.size := by omega); (try have hy2 : w.heap.size + 1 < w'.heap.size := by omega); (try have hy3 : w.heap.size + 1 + 1 < w'.heap.size := by omega); clear hn) | (go_at_call 28; refine (apart_any _ _ _ _ _ _).mono ?_; rintro e w' ⟨rfl, hn⟩; (first | have hg' := Gr.trans hg hn | have hg' := Gr.trans (Gr.alloc hg _) hn | have hg' := Gr.trans (Gr.drewN hg _) hn | have hg' := Gr.trans (Gr.alloc (Gr.alloc hg _) _) hn | have hg' := hn); (try clear hr hf hr2 hf2 hz hz2); (try clear hg); have hg := hg'; clear hg'; have hr := hg.rules.1; have hf := hg.rules.2; have hr2 := hn.rules.1; have hf2 := hn.rules.2; have hz := hg.size; (try simp only [World.size_alloc] at hz); have hz2 := hn.size; (try simp only [World.size_alloc] at hz2); (try clear hy1); (try clear hy2); (try clear hy3); (try have hy1 : w.heap.size < w'.heap.size := by omega); (try have hy2 : w.heap.size + 1 < w'.heap.size := by omega); (try have hy3 : w.heap.size + 1 + 1 < w'.heap.size := by omega); clear hn))
        go_ret
        exact ⟨by first | rfl | (show Ending.returned (Value.bool _) = _; exact ret_bool (by simp; omega)), by repeat (first | (with_reducible exact Gr.refl _) | (with_reducible assumption) | (with_reducible refine Gr.alloc ?_ _) | (with_reducible refine Gr.drewN ?_ _) | (with_reducible refine Gr.drew ?_) | (with_reducible refine Gr.grown ?_ _ _) | (with_reducible refine Gr.setCell ?_ (by first | omega | (simp; omega) | simp) _) | (with_reducible refine Gr.trans ?_ (by with_reducible assumption)))⟩
  · have hE : Ck.adjE oa da n = 0 ∨ Ck.adjE oa da n = 1 := by unfold Ck.adjE; split <;> simp
    rcases Ck.chk_01 ob db with ⟨cb, vb⟩ | ⟨cb, vb⟩
    · obtain ⟨m1, m2⟩ := Ck.apa_out (t := t) ca cb h0
      obtain ⟨m3, m4⟩ := Ck.apa_out (t := t) cb ca h0
      clear h0
      rcases hE with hE | hE
      all_goals
        go_enter Try.func10, Try.ntmps10
        go_wp2_with (first | (go_at_call 11; refine (awake_any _).mono ?_; rintro e w' ⟨rfl, hn⟩; (first | have hg' := Gr.trans hg hn | have hg' := Gr.trans (Gr.alloc hg _) hn | have hg' := Gr.trans (Gr.drewN hg _) hn | have hg' := Gr.trans (Gr.alloc (Gr.alloc hg _) _) hn | have hg' := hn); (try clear hr hf hr2 hf2 hz hz2); (try clear hg); have hg := hg'; clear hg'; have hr := hg.rules.1; have hf := hg.rules.2; have hr2 := hn.rules.1; have hf2 := hn.rules.2; have hz := hg.size; (try simp only [World.size_alloc] at hz); have hz2 := hn.size; (try simp only [World.size_alloc] at hz2); (try clear hy1); (try clear hy2); (try clear hy3); (try have hy1 : w.heap.size < w'.heap.size := by omega); (try have hy2 : w.heap.size + 1 < w'.heap.size := by omega); (try have hy3 : w.heap.size + 1 + 1 < w'.heap.size := by omega); clear hn))
        go_quiet (fail)
        go_wp2_with (first | (go_at_call 12; refine (show_any _ _ _ _).mono ?_; rintro e w' ⟨rfl, hn⟩; (first | have hg' := Gr.trans hg hn | have hg' := Gr.trans (Gr.alloc hg _) hn | have hg' := Gr.trans (Gr.drewN hg _) hn | have hg' := Gr.trans (Gr.alloc (Gr.alloc hg _) _) hn | have hg' := hn); (try clear hr hf hr2 hf2 hz hz2); (try clear hg); have hg := hg'; clear hg'; have hr := hg.rules.1; have hf := hg.rules.2; have hr2 := hn.rules.1; have hf2 := hn.rules.2; have hz := hg.size; (try simp only [World.size_alloc] at hz); have hz2 := hn.size; (try simp only [World.size_alloc] at hz2); (try clear hy1); (try clear hy2); (try clear hy3); (try have hy1 : w.heap.size < w'.heap.size := by omega); (try have hy2 : w.heap.size + 1 < w'.heap.size := by omega); (try have hy3 : w.heap.size + 1 + 1 < w'.heap.size := by omega); clear hn) | (go_at_call 26; refine (adjust_any _ _ _ _).mono ?_; rintro e w' ⟨rfl, hn⟩; (first | have hg' := Gr.trans hg hn | have hg' := Gr.trans (Gr.alloc hg _) hn | have hg' := Gr.trans (Gr.drewN hg _) hn | have hg' := Gr.trans (Gr.alloc (Gr.alloc hg _) _) hn | have hg' := hn); (try clear hr hf hr2 hf2 hz hz2); (try clear hg); have hg := hg'; clear hg'; have hr := hg.rules.1; have hf := hg.rules.2; have hr2 := hn.rules.1; have hf2 := hn.rules.2; have hz := hg.size; (try simp only [World.size_alloc] at hz); have hz2 := hn.size; (try simp only [World.size_alloc] at hz2); (try clear hy1); (try clear hy2); (try clear hy3); (try have hy1 : w.heap.size < w'.heap.size := by omega); (try have hy2 : w.heap.size + 1 < w'.heap.size := by omega); (try have hy3 : w.heap.size + 1 + 1 < w'.heap.size := by omega); clear hn) | (go_at_call 28; refine (apart_any _ _ _ _ _ _).mono ?_; rintro e w' ⟨rfl, hn⟩; (first | have hg' := Gr.trans hg hn | have hg' := Gr.trans (Gr.alloc hg _) hn | have hg' := Gr.trans (Gr.drewN hg _) hn | have hg' := Gr.trans (Gr.alloc (Gr.alloc hg _) _) hn | have hg' := hn); (try clear hr hf hr2 hf2 hz hz2); (try clear hg); have hg := hg'; clear hg'; have hr := hg.rules.1; have hf := hg.rules.2; have hr2 := hn.rules.1; have hf2 := hn.rules.2; have hz := hg.size; (try simp only [World.size_alloc] at hz); have hz2 := hn.size; (try simp only [World.size_alloc] at hz2); (try clear hy1); (try clear hy2); (try clear hy3); (try have hy1 : w.heap.size < w'.heap.size := by omega); (try have hy2 : w.heap.size + 1 < w'.heap.size := by omega); (try have hy3 : w.heap.size + 1 + 1 < w'.heap.size := by omega); clear hn))
        go_ret
        exact ⟨by first | rfl | (show Ending.returned (Value.bool _) = _; exact ret_bool (by simp; omega)), by repeat (first | (with_reducible exact Gr.refl _) | (with_reducible assumption) | (with_reducible refine Gr.alloc ?_ _) | (with_reducible refine Gr.drewN ?_ _) | (with_reducible refine Gr.drew ?_) | (with_reducible refine Gr.grown ?_ _ _) | (with_reducible refine Gr.setCell ?_ (by first | omega | (simp; omega) | simp) _) | (with_reducible refine Gr.trans ?_ (by with_reducible assumption)))⟩
    · obtain ⟨m1, m2⟩ := Ck.apa_bad (oa := oa) (da := da) (ob := ob) (db := db) (t := t) (fun h => by have := h.2; omega)
      obtain ⟨m3, m4⟩ := Ck.apa_bad (oa := ob) (da := db) (ob := oa) (db := da) (t := t) (fun h => by have := h.1; omega)
      clear h0
      rcases hE with hE | hE
      all_goals
        go_enter Try.func10, Try.ntmps10
        go_wp2_with (first | (go_at_call 11; refine (awake_any _).mono ?_; rintro e w' ⟨rfl, hn⟩; (first | have hg' := Gr.trans hg hn | have hg' := Gr.trans (Gr.alloc hg _) hn | have hg' := Gr.trans (Gr.drewN hg _) hn | have hg' := Gr.trans (Gr.alloc (Gr.alloc hg _) _) hn | have hg' := hn); (try clear hr hf hr2 hf2 hz hz2); (try clear hg); have hg := hg'; clear hg'; have hr := hg.rules.1; have hf := hg.rules.2; have hr2 := hn.rules.1; have hf2 := hn.rules.2; have hz := hg.size; (try simp only [World.size_alloc] at hz); have hz2 := hn.size; (try simp only [World.size_alloc] at hz2); (try clear hy1); (try clear hy2); (try clear hy3); (try have hy1 : w.heap.size < w'.heap.size := by omega); (try have hy2 : w.heap.size + 1 < w'.heap.size := by omega); (try have hy3 : w.heap.size + 1 + 1 < w'.heap.size := by omega); clear hn))
        go_quiet (fail)
        go_wp2_with (first | (go_at_call 12; refine (show_any _ _ _ _).mono ?_; rintro e w' ⟨rfl, hn⟩; (first | have hg' := Gr.trans hg hn | have hg' := Gr.trans (Gr.alloc hg _) hn | have hg' := Gr.trans (Gr.drewN hg _) hn | have hg' := Gr.trans (Gr.alloc (Gr.alloc hg _) _) hn | have hg' := hn); (try clear hr hf hr2 hf2 hz hz2); (try clear hg); have hg := hg'; clear hg'; have hr := hg.rules.1; have hf := hg.rules.2; have hr2 := hn.rules.1; have hf2 := hn.rules.2; have hz := hg.size; (try simp only [World.size_alloc] at hz); have hz2 := hn.size; (try simp only [World.size_alloc] at hz2); (try clear hy1); (try clear hy2); (try clear hy3); (try have hy1 : w.heap.size < w'.heap.size := by omega); (try have hy2 : w.heap.size + 1 < w'.heap.size := by omega); (try have hy3 : w.heap.size + 1 + 1 < w'.heap.size := by omega); clear hn) | (go_at_call 26; refine (adjust_any _ _ _ _).mono ?_; rintro e w' ⟨rfl, hn⟩; (first | have hg' := Gr.trans hg hn | have hg' := Gr.trans (Gr.alloc hg _) hn | have hg' := Gr.trans (Gr.drewN hg _) hn | have hg' := Gr.trans (Gr.alloc (Gr.alloc hg _) _) hn | have hg' := hn); (try clear hr hf hr2 hf2 hz hz2); (try clear hg); have hg := hg'; clear hg'; have hr := hg.rules.1; have hf := hg.rules.2; have hr2 := hn.rules.1; have hf2 := hn.rules.2; have hz := hg.size; (try simp only [World.size_alloc] at hz); have hz2 := hn.size; (try simp only [World.size_alloc] at hz2); (try clear hy1); (try clear hy2); (try clear hy3); (try have hy1 : w.heap.size < w'.heap.size := by omega); (try have hy2 : w.heap.size + 1 < w'.heap.size := by omega); (try have hy3 : w.heap.size + 1 + 1 < w'.heap.size := by omega); clear hn) | (go_at_call 28; refine (apart_any _ _ _ _ _ _).mono ?_; rintro e w' ⟨rfl, hn⟩; (first | have hg' := Gr.trans hg hn | have hg' := Gr.trans (Gr.alloc hg _) hn | have hg' := Gr.trans (Gr.drewN hg _) hn | have hg' := Gr.trans (Gr.alloc (Gr.alloc hg _) _) hn | have hg' := hn); (try clear hr hf hr2 hf2 hz hz2); (try clear hg); have hg := hg'; clear hg'; have hr := hg.rules.1; have hf := hg.rules.2; have hr2 := hn.rules.1; have hf2 := hn.rules.2; have hz := hg.size; (try simp only [World.size_alloc] at hz); have hz2 := hn.size; (try simp only [World.size_alloc] at hz2); (try clear hy1); (try clear hy2); (try clear hy3); (try have hy1 : w.heap.size < w'.heap.size := by omega); (try have hy2 : w.heap.size + 1 < w'.heap.size := by omega); (try have hy3 : w.heap.size + 1 + 1 < w'.heap.size := by omega); clear hn))
        go_ret
        exact ⟨by first | rfl | (show Ending.returned (Value.bool _) = _; exact ret_bool (by simp; omega)), by repeat (first | (with_reducible exact Gr.refl _) | (with_reducible assumption) | (with_reducible refine Gr.alloc ?_ _) | (with_reducible refine Gr.drewN ?_ _) | (with_reducible refine Gr.drew ?_) | (with_reducible refine Gr.grown ?_ _ _) | (with_reducible refine Gr.setCell ?_ (by first | omega | (simp; omega) | simp) _) | (with_reducible refine Gr.trans ?_ (by with_reducible assumption)))⟩
  · obtain ⟨j1, j2, j3⟩ := Ck.adj_no1 (n := n) ca
    obtain ⟨m1, m2⟩ := Ck.apa_bad (oa := oa) (da := da) (ob := ob) (db := db) (t := t) (fun h => by have := h.1; omega)
    obtain ⟨m3, m4⟩ := Ck.apa_bad (oa := ob) (da := db) (ob := oa) (db := da) (t := t) (fun h => by have := h.2; omega)
    go_enter Try.func10, Try.ntmps10
    go_wp2_with (first | (go_at_call 11; refine (awake_any _).mono ?_; rintro e w' ⟨rfl, hn⟩; (first | have hg' := Gr.trans hg hn | have hg' := Gr.trans (Gr.alloc hg _) hn | have hg' := Gr.trans (Gr.drewN hg _) hn | have hg' := Gr.trans (Gr.alloc (Gr.alloc hg _) _) hn | have hg' := hn); (try clear hr hf hr2 hf2 hz hz2); (try clear hg); have hg := hg'; clear hg'; have hr := hg.rules.1; have hf := hg.rules.2; have hr2 := hn.rules.1; have hf2 := hn.rules.2; have hz := hg.size; (try simp only [World.size_alloc] at hz); have hz2 := hn.size; (try simp only [World.size_alloc] at hz2); (try clear hy1); (try clear hy2); (try clear hy3); (try have hy1 : w.heap.size < w'.heap.size := by omega); (try have hy2 : w.heap.size + 1 < w'.heap.size := by omega); (try have hy3 : w.heap.size + 1 + 1 < w'.heap.size := by omega); clear hn))
    go_quiet (fail)
    go_wp2_with (first | (go_at_call 12; refine (show_any _ _ _ _).mono ?_; rintro e w' ⟨rfl, hn⟩; (first | have hg' := Gr.trans hg hn | have hg' := Gr.trans (Gr.alloc hg _) hn | have hg' := Gr.trans (Gr.drewN hg _) hn | have hg' := Gr.trans (Gr.alloc (Gr.alloc hg _) _) hn | have hg' := hn); (try clear hr hf hr2 hf2 hz hz2); (try clear hg); have hg := hg'; clear hg'; have hr := hg.rules.1; have hf := hg.rules.2; have hr2 := hn.rules.1; have hf2 := hn.rules.2; have hz := hg.size; (try simp only [World.size_alloc] at hz); have hz2 := hn.size; (try simp only [World.size_alloc] at hz2); (try clear hy1); (try clear hy2); (try clear hy3); (try have hy1 : w.heap.size < w'.heap.size := by omega); (try have hy2 : w.heap.size + 1 < w'.heap.size := by omega); (try have hy3 : w.heap.size + 1 + 1 < w'.heap.size := by omega); clear hn) | (go_at_call 26; refine (adjust_any _ _ _ _).mono ?_; rintro e w' ⟨rfl, hn⟩; (first | have hg' := Gr.trans hg hn | have hg' := Gr.trans (Gr.alloc hg _) hn | have hg' := Gr.trans (Gr.drewN hg _) hn | have hg' := Gr.trans (Gr.alloc (Gr.alloc hg _) _) hn | have hg' := hn); (try clear hr hf hr2 hf2 hz hz2); (try clear hg); have hg := hg'; clear hg'; have hr := hg.rules.1; have hf := hg.rules.2; have hr2 := hn.rules.1; have hf2 := hn.rules.2; have hz := hg.size; (try simp only [World.size_alloc] at hz); have hz2 := hn.size; (try simp only [World.size_alloc] at hz2); (try clear hy1); (try clear hy2); (try clear hy3); (try have hy1 : w.heap.size < w'.heap.size := by omega); (try have hy2 : w.heap.size + 1 < w'.heap.size := by omega); (try have hy3 : w.heap.size + 1 + 1 < w'.heap.size := by omega); clear hn) | (go_at_call 28; refine (apart_any _ _ _ _ _ _).mono ?_; rintro e w' ⟨rfl, hn⟩; (first | have hg' := Gr.trans hg hn | have hg' := Gr.trans (Gr.alloc hg _) hn | have hg' := Gr.trans (Gr.drewN hg _) hn | have hg' := Gr.trans (Gr.alloc (Gr.alloc hg _) _) hn | have hg' := hn); (try clear hr hf hr2 hf2 hz hz2); (try clear hg); have hg := hg'; clear hg'; have hr := hg.rules.1; have hf := hg.rules.2; have hr2 := hn.rules.1; have hf2 := hn.rules.2; have hz := hg.size; (try simp only [World.size_alloc] at hz); have hz2 := hn.size; (try simp only [World.size_alloc] at hz2); (try clear hy1); (try clear hy2); (try clear hy3); (try have hy1 : w.heap.size < w'.heap.size := by omega); (try have hy2 : w.heap.size + 1 < w'.heap.size := by omega); (try have hy3 : w.heap.size + 1 + 1 < w'.heap.size := by omega); clear hn))
    go_ret
    exact ⟨by first | rfl | (show Ending.returned (Value.bool _) = _; exact ret_bool (by simp; omega)), by repeat (first | (with_reducible exact Gr.refl _) | (with_reducible assumption) | (with_reducible refine Gr.alloc ?_ _) | (with_reducible refine Gr.drewN ?_ _) | (with_reducible refine Gr.drew ?_) | (with_reducible refine Gr.grown ?_ _ _) | (with_reducible refine Gr.setCell ?_ (by first | omega | (simp; omega) | simp) _) | (with_reducible refine Gr.trans ?_ (by with_reducible assumption)))⟩
end Go.Proofs.Ytipjcejhenlpoaa.clockShifts

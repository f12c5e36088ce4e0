/- The contracts of the reference's Release, right, Window, Due and Current. -/
import Derived.Test.YtabckmanijcndaaR32A
import Derived.Test.YtabckmanijcndaaFlwF
namespace Go.Proofs.Ytabckmanijcndaa
open Go.RowKit Go.Sort
set_option linter.unusedVariables false

theorem wpe {f : Fl} (h : (Lit.int .i64 f.pe).wf = true) : f.pe ≤ 9223372036854775807 ∧ -9223372036854775808 ≤ f.pe := by
  simp [Lit.wf, IntKind.min, IntKind.max, IntKind.signed, IntKind.bits] at h; omega

set_option maxHeartbeats 400000 in
theorem rrelease_any (f : Fl) (k : Int) (w : World) (h : f.ph + k * f.pe ≤ 4611686018427387904) (h0 : 0 ≤ k * f.pe) (h1 : 0 ≤ f.ph) :
    Calls Try.prog 31 #[.agg #[.int .i64 f.id, .int .i64 f.fr, .int .i64 f.to, .int .i64 f.pe, .int .i64 f.ph, .int .i64 f.de], .int .i64 k] w fun e w' => e = .returned (.int .i64 (f.ph + k * f.pe)) ∧ Gr w w' := by
  go_enter Try.func31, Try.ntmps31
  go_wp2_with fail
  go_ret
  exact ⟨rfl, by repeat (first | (with_reducible exact Gr.refl _) | (with_reducible assumption) | (with_reducible refine Gr.alloc ?_ _) | (with_reducible refine Gr.drewN ?_ _) | (with_reducible refine Gr.drew ?_) | (with_reducible refine Gr.grown ?_ _ _) | (with_reducible refine Gr.regrown ?_ _ _) | (with_reducible refine Gr.setCell ?_ (by first | omega | (simp; omega) | simp) _) | (with_reducible refine Gr.trans ?_ (by with_reducible assumption)))⟩

set_option maxHeartbeats 2000000 in
theorem right_any (f : Fl) (k : Int) (w : World) (wp : f.pe ≤ 9223372036854775807 ∧ -9223372036854775808 ≤ f.pe) :
    Calls Try.prog 30 #[.agg #[.int .i64 f.id, .int .i64 f.fr, .int .i64 f.to, .int .i64 f.pe, .int .i64 f.ph, .int .i64 f.de], .int .i64 k] w fun e w' => e = .returned (.int .i64 (Fw.relE f k)) ∧ Gr w w' := by
  rcases chk_012 32 f with hc | hc
  · obtain ⟨hok, -⟩ := Fw.chk_inv hc
    by_cases h01 : 0 ≤ k ∧ k ≤ 1099511627776
    · have b1 := bt h01
      obtain ⟨h0, h1⟩ := h01
      obtain ⟨p1, p2⟩ := Fw.pr_bd hok h0 h1
      have q1 := hok.2.2.2.1
      have q2 := hok.2.2.2.2.1
      have q3 := hok.2.2.1
      by_cases h2 : f.ph + k * f.pe ≤ 1099511627776
      · have hr : Fw.relOk f k := ⟨hc, h0, h1, h2⟩
        have E : Hid (0 = Fw.relE f k) := by unfold Fw.relE; rw [if_pos hc, if_pos hr]; rfl
        clear hok hr
        go_enter Try.func30, Try.ntmps30
        go_wp2_with (first | (go_at_call 38; refine (fault_any 32 f _ (by omega) (by omega) wp).mono ?_; rintro e w' ⟨rfl, hn⟩; (first | have hg' := Gr.trans hg hn | have hg' := Gr.trans (Gr.alloc hg _) hn | have hg' := Gr.trans (Gr.drewN hg _) hn | have hg' := Gr.trans (Gr.alloc (Gr.alloc hg _) _) hn | have hg' := hn); (try clear hr hf hr2 hf2 hz hz2); (try clear hg); have hg := hg'; clear hg'; have hr := hg.rules.1; have hf := hg.rules.2; have hr2 := hn.rules.1; have hf2 := hn.rules.2; have hz := hg.size; (try simp only [World.size_alloc] at hz); have hz2 := hn.size; (try simp only [World.size_alloc] at hz2); (try clear hy1); (try clear hy2); (try clear hy3); (try have hy1 : w.heap.size < w'.heap.size := by omega); (try have hy2 : w.heap.size + 1 < w'.heap.size := by omega); (try have hy3 : w.heap.size + 1 + 1 < w'.heap.size := by omega); clear hn) | (go_at_call 37; refine (in_any _ _ _ _).mono ?_; rintro e w' ⟨rfl, rfl⟩) | (go_at_call 31; refine (rrelease_any f _ _ (by omega) (by omega) (by omega)).mono ?_; rintro e w' ⟨rfl, hn⟩; (first | have hg' := Gr.trans hg hn | have hg' := Gr.trans (Gr.alloc hg _) hn | have hg' := Gr.trans (Gr.drewN hg _) hn | have hg' := Gr.trans (Gr.alloc (Gr.alloc hg _) _) hn | have hg' := hn); (try clear hr hf hr2 hf2 hz hz2); (try clear hg); have hg := hg'; clear hg'; have hr := hg.rules.1; have hf := hg.rules.2; have hr2 := hn.rules.1; have hf2 := hn.rules.2; have hz := hg.size; (try simp only [World.size_alloc] at hz); have hz2 := hn.size; (try simp only [World.size_alloc] at hz2); (try clear hy1); (try clear hy2); (try clear hy3); (try have hy1 : w.heap.size < w'.heap.size := by omega); (try have hy2 : w.heap.size + 1 < w'.heap.size := by omega); (try have hy3 : w.heap.size + 1 + 1 < w'.heap.size := by omega); clear hn))
        go_ret
        exact ⟨ret_int E.out, by repeat (first | (with_reducible exact Gr.refl _) | (with_reducible assumption) | (with_reducible refine Gr.alloc ?_ _) | (with_reducible refine Gr.drewN ?_ _) | (with_reducible refine Gr.drew ?_) | (with_reducible refine Gr.grown ?_ _ _) | (with_reducible refine Gr.regrown ?_ _ _) | (with_reducible refine Gr.setCell ?_ (by first | omega | (simp; omega) | simp) _) | (with_reducible refine Gr.trans ?_ (by with_reducible assumption)))⟩
      · have hr : ¬ Fw.relOk f k := fun h => h2 h.2.2.2
        have E : Hid (2 = Fw.relE f k) := by unfold Fw.relE; rw [if_pos hc, if_neg hr]; rfl
        clear hok hr
        go_enter Try.func30, Try.ntmps30
        go_wp2_with (first | (go_at_call 38; refine (fault_any 32 f _ (by omega) (by omega) wp).mono ?_; rintro e w' ⟨rfl, hn⟩; (first | have hg' := Gr.trans hg hn | have hg' := Gr.trans (Gr.alloc hg _) hn | have hg' := Gr.trans (Gr.drewN hg _) hn | have hg' := Gr.trans (Gr.alloc (Gr.alloc hg _) _) hn | have hg' := hn); (try clear hr hf hr2 hf2 hz hz2); (try clear hg); have hg := hg'; clear hg'; have hr := hg.rules.1; have hf := hg.rules.2; have hr2 := hn.rules.1; have hf2 := hn.rules.2; have hz := hg.size; (try simp only [World.size_alloc] at hz); have hz2 := hn.size; (try simp only [World.size_alloc] at hz2); (try clear hy1); (try clear hy2); (try clear hy3); (try have hy1 : w.heap.size < w'.heap.size := by omega); (try have hy2 : w.heap.size + 1 < w'.heap.size := by omega); (try have hy3 : w.heap.size + 1 + 1 < w'.heap.size := by omega); clear hn) | (go_at_call 37; refine (in_any _ _ _ _).mono ?_; rintro e w' ⟨rfl, rfl⟩) | (go_at_call 31; refine (rrelease_any f _ _ (by omega) (by omega) (by omega)).mono ?_; rintro e w' ⟨rfl, hn⟩; (first | have hg' := Gr.trans hg hn | have hg' := Gr.trans (Gr.alloc hg _) hn | have hg' := Gr.trans (Gr.drewN hg _) hn | have hg' := Gr.trans (Gr.alloc (Gr.alloc hg _) _) hn | have hg' := hn); (try clear hr hf hr2 hf2 hz hz2); (try clear hg); have hg := hg'; clear hg'; have hr := hg.rules.1; have hf := hg.rules.2; have hr2 := hn.rules.1; have hf2 := hn.rules.2; have hz := hg.size; (try simp only [World.size_alloc] at hz); have hz2 := hn.size; (try simp only [World.size_alloc] at hz2); (try clear hy1); (try clear hy2); (try clear hy3); (try have hy1 : w.heap.size < w'.heap.size := by omega); (try have hy2 : w.heap.size + 1 < w'.heap.size := by omega); (try have hy3 : w.heap.size + 1 + 1 < w'.heap.size := by omega); clear hn))
        go_ret
        exact ⟨ret_int E.out, by repeat (first | (with_reducible exact Gr.refl _) | (with_reducible assumption) | (with_reducible refine Gr.alloc ?_ _) | (with_reducible refine Gr.drewN ?_ _) | (with_reducible refine Gr.drew ?_) | (with_reducible refine Gr.grown ?_ _ _) | (with_reducible refine Gr.regrown ?_ _ _) | (with_reducible refine Gr.setCell ?_ (by first | omega | (simp; omega) | simp) _) | (with_reducible refine Gr.trans ?_ (by with_reducible assumption)))⟩
    · have b1 := bf h01
      have hr : ¬ Fw.relOk f k := fun h => h01 ⟨h.2.1, h.2.2.1⟩
      have E : Hid (2 = Fw.relE f k) := by unfold Fw.relE; rw [if_pos hc, if_neg hr]; rfl
      clear hok hr h01
      go_enter Try.func30, Try.ntmps30
      go_wp2_with (first | (go_at_call 38; refine (fault_any 32 f _ (by omega) (by omega) wp).mono ?_; rintro e w' ⟨rfl, hn⟩; (first | have hg' := Gr.trans hg hn | have hg' := Gr.trans (Gr.alloc hg _) hn | have hg' := Gr.trans (Gr.drewN hg _) hn | have hg' := Gr.trans (Gr.alloc (Gr.alloc hg _) _) hn | have hg' := hn); (try clear hr hf hr2 hf2 hz hz2); (try clear hg); have hg := hg'; clear hg'; have hr := hg.rules.1; have hf := hg.rules.2; have hr2 := hn.rules.1; have hf2 := hn.rules.2; have hz := hg.size; (try simp only [World.size_alloc] at hz); have hz2 := hn.size; (try simp only [World.size_alloc] at hz2); (try clear hy1); (try clear hy2); (try clear hy3); (try have hy1 : w.heap.size < w'.heap.size := by omega); (try have hy2 : w.heap.size + 1 < w'.heap.size := by omega); (try have hy3 : w.heap.size + 1 + 1 < w'.heap.size := by omega); clear hn) | (go_at_call 37; refine (in_any _ _ _ _).mono ?_; rintro e w' ⟨rfl, rfl⟩) | (go_at_call 31; refine (rrelease_any f _ _ (by omega) (by omega) (by omega)).mono ?_; rintro e w' ⟨rfl, hn⟩; (first | have hg' := Gr.trans hg hn | have hg' := Gr.trans (Gr.alloc hg _) hn | have hg' := Gr.trans (Gr.drewN hg _) hn | have hg' := Gr.trans (Gr.alloc (Gr.alloc hg _) _) hn | have hg' := hn); (try clear hr hf hr2 hf2 hz hz2); (try clear hg); have hg := hg'; clear hg'; have hr := hg.rules.1; have hf := hg.rules.2; have hr2 := hn.rules.1; have hf2 := hn.rules.2; have hz := hg.size; (try simp only [World.size_alloc] at hz); have hz2 := hn.size; (try simp only [World.size_alloc] at hz2); (try clear hy1); (try clear hy2); (try clear hy3); (try have hy1 : w.heap.size < w'.heap.size := by omega); (try have hy2 : w.heap.size + 1 < w'.heap.size := by omega); (try have hy3 : w.heap.size + 1 + 1 < w'.heap.size := by omega); clear hn))
      go_ret
      exact ⟨ret_int E.out, by repeat (first | (with_reducible exact Gr.refl _) | (with_reducible assumption) | (with_reducible refine Gr.alloc ?_ _) | (with_reducible refine Gr.drewN ?_ _) | (with_reducible refine Gr.drew ?_) | (with_reducible refine Gr.grown ?_ _ _) | (with_reducible refine Gr.regrown ?_ _ _) | (with_reducible refine Gr.setCell ?_ (by first | omega | (simp; omega) | simp) _) | (with_reducible refine Gr.trans ?_ (by with_reducible assumption)))⟩
  · have E : Hid (1 = Fw.relE f k) := by unfold Fw.relE; rw [if_neg (by simpa using hc)]; rfl
    go_enter Try.func30, Try.ntmps30
    go_wp2_with (first | (go_at_call 38; refine (fault_any 32 f _ (by omega) (by omega) wp).mono ?_; rintro e w' ⟨rfl, hn⟩; (first | have hg' := Gr.trans hg hn | have hg' := Gr.trans (Gr.alloc hg _) hn | have hg' := Gr.trans (Gr.drewN hg _) hn | have hg' := Gr.trans (Gr.alloc (Gr.alloc hg _) _) hn | have hg' := hn); (try clear hr hf hr2 hf2 hz hz2); (try clear hg); have hg := hg'; clear hg'; have hr := hg.rules.1; have hf := hg.rules.2; have hr2 := hn.rules.1; have hf2 := hn.rules.2; have hz := hg.size; (try simp only [World.size_alloc] at hz); have hz2 := hn.size; (try simp only [World.size_alloc] at hz2); (try clear hy1); (try clear hy2); (try clear hy3); (try have hy1 : w.heap.size < w'.heap.size := by omega); (try have hy2 : w.heap.size + 1 < w'.heap.size := by omega); (try have hy3 : w.heap.size + 1 + 1 < w'.heap.size := by omega); clear hn) | (go_at_call 37; refine (in_any _ _ _ _).mono ?_; rintro e w' ⟨rfl, rfl⟩) | (go_at_call 31; refine (rrelease_any f _ _ (by omega) (by omega) (by omega)).mono ?_; rintro e w' ⟨rfl, hn⟩; (first | have hg' := Gr.trans hg hn | have hg' := Gr.trans (Gr.alloc hg _) hn | have hg' := Gr.trans (Gr.drewN hg _) hn | have hg' := Gr.trans (Gr.alloc (Gr.alloc hg _) _) hn | have hg' := hn); (try clear hr hf hr2 hf2 hz hz2); (try clear hg); have hg := hg'; clear hg'; have hr := hg.rules.1; have hf := hg.rules.2; have hr2 := hn.rules.1; have hf2 := hn.rules.2; have hz := hg.size; (try simp only [World.size_alloc] at hz); have hz2 := hn.size; (try simp only [World.size_alloc] at hz2); (try clear hy1); (try clear hy2); (try clear hy3); (try have hy1 : w.heap.size < w'.heap.size := by omega); (try have hy2 : w.heap.size + 1 < w'.heap.size := by omega); (try have hy3 : w.heap.size + 1 + 1 < w'.heap.size := by omega); clear hn))
    go_ret
    exact ⟨ret_int E.out, by repeat (first | (with_reducible exact Gr.refl _) | (with_reducible assumption) | (with_reducible refine Gr.alloc ?_ _) | (with_reducible refine Gr.drewN ?_ _) | (with_reducible refine Gr.drew ?_) | (with_reducible refine Gr.grown ?_ _ _) | (with_reducible refine Gr.regrown ?_ _ _) | (with_reducible refine Gr.setCell ?_ (by first | omega | (simp; omega) | simp) _) | (with_reducible refine Gr.trans ?_ (by with_reducible assumption)))⟩

set_option maxHeartbeats 2000000 in
theorem rwindow_any (f : Fl) (k : Int) (w : World) (wp : f.pe ≤ 9223372036854775807 ∧ -9223372036854775808 ≤ f.pe) :
    Calls Try.prog 12 #[.agg #[.int .i64 f.id, .int .i64 f.fr, .int .i64 f.to, .int .i64 f.pe, .int .i64 f.ph, .int .i64 f.de], .int .i64 k] w fun e w' => e = .returned (.tuple #[.int .i64 (Fw.relN f k), .int .i64 (Fw.winT f k), .int .i64 (Fw.relE f k)]) ∧ Gr w w' := by
  by_cases he : Fw.relE f k = 0
  · obtain ⟨hr, n1⟩ := rel_inv he
    obtain ⟨hok, -⟩ := Fw.chk_inv hr.1
    obtain ⟨p1, p2⟩ := Fw.pr_bd hok hr.2.1 hr.2.2.1
    have k0 := hr.2.1
    have k1 := hr.2.2.1
    have q1 := hok.2.2.2.1
    have q2 := hok.2.2.2.2.1
    have q3 := hok.2.2.1
    have q4 := hok.2.1
    have e1 : (k + 1) * f.pe = k * f.pe + f.pe := by rw [Int.add_mul, Int.one_mul]
    have z0 : 0 ≤ (k + 1) * f.pe := by omega
    have z1 : f.ph + (k + 1) * f.pe ≤ 4611686018427387904 := by omega
    have T : Hid (f.ph + (k + 1) * f.pe - 1 = Fw.winT f k) := by show _ = _; unfold Fw.winT; rw [if_pos hr]; omega
    clear hok hr e1
    go_enter Try.func12, Try.ntmps12
    go_wp2_with (first | (go_at_call 30; refine (right_any f _ _ wp).mono ?_; rintro e w' ⟨rfl, hn⟩; (first | have hg' := Gr.trans hg hn | have hg' := Gr.trans (Gr.alloc hg _) hn | have hg' := Gr.trans (Gr.drewN hg _) hn | have hg' := Gr.trans (Gr.alloc (Gr.alloc hg _) _) hn | have hg' := hn); (try clear hr hf hr2 hf2 hz hz2); (try clear hg); have hg := hg'; clear hg'; have hr := hg.rules.1; have hf := hg.rules.2; have hr2 := hn.rules.1; have hf2 := hn.rules.2; have hz := hg.size; (try simp only [World.size_alloc] at hz); have hz2 := hn.size; (try simp only [World.size_alloc] at hz2); (try clear hy1); (try clear hy2); (try clear hy3); (try have hy1 : w.heap.size < w'.heap.size := by omega); (try have hy2 : w.heap.size + 1 < w'.heap.size := by omega); (try have hy3 : w.heap.size + 1 + 1 < w'.heap.size := by omega); clear hn))
    have c0 := fun d os => cell_regrown (w := w') (a := ⟨w.heap.size, 0, none⟩) (v := .int .i64 f.id) ((Gr.cell hg (by first | (simp; done) | (simp; omega) | omega)).trans (by go_simp)) d os; have c1 := fun d os => cell_regrown (w := w') (a := ⟨w.heap.size, 1, none⟩) (v := .int .i64 f.fr) ((Gr.cell hg (by first | (simp; done) | (simp; omega) | omega)).trans (by go_simp)) d os; have c2 := fun d os => cell_regrown (w := w') (a := ⟨w.heap.size, 2, none⟩) (v := .int .i64 f.to) ((Gr.cell hg (by first | (simp; done) | (simp; omega) | omega)).trans (by go_simp)) d os; have c3 := fun d os => cell_regrown (w := w') (a := ⟨w.heap.size, 3, none⟩) (v := .int .i64 f.pe) ((Gr.cell hg (by first | (simp; done) | (simp; omega) | omega)).trans (by go_simp)) d os; have c4 := fun d os => cell_regrown (w := w') (a := ⟨w.heap.size, 4, none⟩) (v := .int .i64 f.ph) ((Gr.cell hg (by first | (simp; done) | (simp; omega) | omega)).trans (by go_simp)) d os; have c5 := fun d os => cell_regrown (w := w') (a := ⟨w.heap.size, 5, none⟩) (v := .int .i64 f.de) ((Gr.cell hg (by first | (simp; done) | (simp; omega) | omega)).trans (by go_simp)) d os
    have mixed : Try.prog.follows .mixedOrders = true := by kernel_rfl
    clear hr hf hr2 hf2
    have R0 := fun W => rrelease_any f k W (by omega) (by omega) (by omega)
    have R1 := fun W => rrelease_any f (k + 1) W (by omega) (by omega) (by omega)
    have s1 : IntKind.i64.wrap (k + 1) = k + 1 := IntWalk.i64_in _ (by omega)
    have s2 : IntKind.i64.wrap (f.ph + (k + 1) * f.pe - 1) = f.ph + (k + 1) * f.pe - 1 := IntWalk.i64_in _ (by omega)
    refine wp_region_quiet_below (by assumption) (by kernel_rfl) ?_; (repeat (quiet_step ((first | (go_at_call 31; with_reducible exact Gr.meet (R0 _)) | (go_at_call 31; with_reducible exact Gr.meet (R1 _)))))); refine wpQuiet_nil ?_; intro _ hw'; obtain ⟨⟨nq, osq⟩, hw''⟩ := hw'; subst hw''
    go_wp2_with fail
    go_ret3
    exact ⟨ret_int3 n1.symm T.out he.symm, by repeat (first | (with_reducible exact Gr.refl _) | (with_reducible assumption) | (with_reducible refine Gr.alloc ?_ _) | (with_reducible refine Gr.drewN ?_ _) | (with_reducible refine Gr.drew ?_) | (with_reducible refine Gr.grown ?_ _ _) | (with_reducible refine Gr.regrown ?_ _ _) | (with_reducible refine Gr.setCell ?_ (by first | omega | (simp; omega) | simp) _) | (with_reducible refine Gr.trans ?_ (by with_reducible assumption)))⟩
  · have hr : ¬ Fw.relOk f k := fun h => he (by unfold Fw.relE; rw [if_pos h.1, if_pos h])
    have N : Hid (0 = Fw.relN f k) := by unfold Fw.relN; rw [if_neg hr]; rfl
    have T : Hid (0 = Fw.winT f k) := by unfold Fw.winT; rw [if_neg hr]; rfl
    have hb : (Fw.relE f k != 0) = true := by simpa using he
    clear hr he
    go_enter Try.func12, Try.ntmps12
    go_wp2_with (first | (go_at_call 30; refine (right_any f _ _ wp).mono ?_; rintro e w' ⟨rfl, hn⟩; (first | have hg' := Gr.trans hg hn | have hg' := Gr.trans (Gr.alloc hg _) hn | have hg' := Gr.trans (Gr.drewN hg _) hn | have hg' := Gr.trans (Gr.alloc (Gr.alloc hg _) _) hn | have hg' := hn); (try clear hr hf hr2 hf2 hz hz2); (try clear hg); have hg := hg'; clear hg'; have hr := hg.rules.1; have hf := hg.rules.2; have hr2 := hn.rules.1; have hf2 := hn.rules.2; have hz := hg.size; (try simp only [World.size_alloc] at hz); have hz2 := hn.size; (try simp only [World.size_alloc] at hz2); (try clear hy1); (try clear hy2); (try clear hy3); (try have hy1 : w.heap.size < w'.heap.size := by omega); (try have hy2 : w.heap.size + 1 < w'.heap.size := by omega); (try have hy3 : w.heap.size + 1 + 1 < w'.heap.size := by omega); clear hn))
    go_ret3
    exact ⟨ret_int3 N.out T.out rfl, by repeat (first | (with_reducible exact Gr.refl _) | (with_reducible assumption) | (with_reducible refine Gr.alloc ?_ _) | (with_reducible refine Gr.drewN ?_ _) | (with_reducible refine Gr.drew ?_) | (with_reducible refine Gr.grown ?_ _ _) | (with_reducible refine Gr.regrown ?_ _ _) | (with_reducible refine Gr.setCell ?_ (by first | omega | (simp; omega) | simp) _) | (with_reducible refine Gr.trans ?_ (by with_reducible assumption)))⟩

set_option maxHeartbeats 2000000 in
theorem rdue_any (f : Fl) (k : Int) (w : World) (wp : f.pe ≤ 9223372036854775807 ∧ -9223372036854775808 ≤ f.pe) :
    Calls Try.prog 14 #[.agg #[.int .i64 f.id, .int .i64 f.fr, .int .i64 f.to, .int .i64 f.pe, .int .i64 f.ph, .int .i64 f.de], .int .i64 k] w fun e w' => e = .returned (.tuple #[.int .i64 (Fw.dueN f k), .int .i64 (Fw.relE f k)]) ∧ Gr w w' := by
  by_cases he : Fw.relE f k = 0
  · obtain ⟨hr, n1⟩ := rel_inv he
    obtain ⟨hok, -⟩ := Fw.chk_inv hr.1
    obtain ⟨p1, p2⟩ := Fw.pr_bd hok hr.2.1 hr.2.2.1
    have q1 := hok.2.2.2.1
    have q2 := hok.2.2.2.2.1
    have q3 := hok.2.2.1
    have q4 := hok.2.2.2.2.2.1
    have q5 := hok.2.2.2.2.2.2
    have T : Hid (f.ph + k * f.pe + f.de - 1 = Fw.dueN f k) := by unfold Fw.dueN; rw [if_pos hr]; rfl
    clear hok hr
    go_enter Try.func14, Try.ntmps14
    go_wp2_with (first | (go_at_call 30; refine (right_any f _ _ wp).mono ?_; rintro e w' ⟨rfl, hn⟩; (first | have hg' := Gr.trans hg hn | have hg' := Gr.trans (Gr.alloc hg _) hn | have hg' := Gr.trans (Gr.drewN hg _) hn | have hg' := Gr.trans (Gr.alloc (Gr.alloc hg _) _) hn | have hg' := hn); (try clear hr hf hr2 hf2 hz hz2); (try clear hg); have hg := hg'; clear hg'; have hr := hg.rules.1; have hf := hg.rules.2; have hr2 := hn.rules.1; have hf2 := hn.rules.2; have hz := hg.size; (try simp only [World.size_alloc] at hz); have hz2 := hn.size; (try simp only [World.size_alloc] at hz2); (try clear hy1); (try clear hy2); (try clear hy3); (try have hy1 : w.heap.size < w'.heap.size := by omega); (try have hy2 : w.heap.size + 1 < w'.heap.size := by omega); (try have hy3 : w.heap.size + 1 + 1 < w'.heap.size := by omega); clear hn))
    have c0 := fun d os => cell_regrown (w := w') (a := ⟨w.heap.size, 0, none⟩) (v := .int .i64 f.id) ((Gr.cell hg (by first | (simp; done) | (simp; omega) | omega)).trans (by go_simp)) d os; have c1 := fun d os => cell_regrown (w := w') (a := ⟨w.heap.size, 1, none⟩) (v := .int .i64 f.fr) ((Gr.cell hg (by first | (simp; done) | (simp; omega) | omega)).trans (by go_simp)) d os; have c2 := fun d os => cell_regrown (w := w') (a := ⟨w.heap.size, 2, none⟩) (v := .int .i64 f.to) ((Gr.cell hg (by first | (simp; done) | (simp; omega) | omega)).trans (by go_simp)) d os; have c3 := fun d os => cell_regrown (w := w') (a := ⟨w.heap.size, 3, none⟩) (v := .int .i64 f.pe) ((Gr.cell hg (by first | (simp; done) | (simp; omega) | omega)).trans (by go_simp)) d os; have c4 := fun d os => cell_regrown (w := w') (a := ⟨w.heap.size, 4, none⟩) (v := .int .i64 f.ph) ((Gr.cell hg (by first | (simp; done) | (simp; omega) | omega)).trans (by go_simp)) d os; have c5 := fun d os => cell_regrown (w := w') (a := ⟨w.heap.size, 5, none⟩) (v := .int .i64 f.de) ((Gr.cell hg (by first | (simp; done) | (simp; omega) | omega)).trans (by go_simp)) d os
    have mixed : Try.prog.follows .mixedOrders = true := by kernel_rfl
    clear hr hf hr2 hf2
    have R0 := fun W => rrelease_any f k W (by omega) (by omega) (by omega)
    have s1 : IntKind.i64.wrap (f.ph + k * f.pe + f.de) = f.ph + k * f.pe + f.de := IntWalk.i64_in _ (by omega)
    have s2 : IntKind.i64.wrap (f.ph + k * f.pe + f.de - 1) = f.ph + k * f.pe + f.de - 1 := IntWalk.i64_in _ (by omega)
    refine wp_region_quiet_below (by assumption) (by kernel_rfl) ?_; (repeat (quiet_step ((go_at_call 31; with_reducible exact Gr.meet (R0 _))))); refine wpQuiet_nil ?_; intro _ hw'; obtain ⟨⟨nq, osq⟩, hw''⟩ := hw'; subst hw''
    go_wp2_with fail
    go_ret2
    exact ⟨ret_int2 T.out he.symm, by repeat (first | (with_reducible exact Gr.refl _) | (with_reducible assumption) | (with_reducible refine Gr.alloc ?_ _) | (with_reducible refine Gr.drewN ?_ _) | (with_reducible refine Gr.drew ?_) | (with_reducible refine Gr.grown ?_ _ _) | (with_reducible refine Gr.regrown ?_ _ _) | (with_reducible refine Gr.setCell ?_ (by first | omega | (simp; omega) | simp) _) | (with_reducible refine Gr.trans ?_ (by with_reducible assumption)))⟩
  · have hr : ¬ Fw.relOk f k := fun h => he (by unfold Fw.relE; rw [if_pos h.1, if_pos h])
    have T : Hid (0 = Fw.dueN f k) := by unfold Fw.dueN; rw [if_neg hr]; rfl
    have hb : (Fw.relE f k != 0) = true := by simpa using he
    clear hr he
    go_enter Try.func14, Try.ntmps14
    go_wp2_with (first | (go_at_call 30; refine (right_any f _ _ wp).mono ?_; rintro e w' ⟨rfl, hn⟩; (first | have hg' := Gr.trans hg hn | have hg' := Gr.trans (Gr.alloc hg _) hn | have hg' := Gr.trans (Gr.drewN hg _) hn | have hg' := Gr.trans (Gr.alloc (Gr.alloc hg _) _) hn | have hg' := hn); (try clear hr hf hr2 hf2 hz hz2); (try clear hg); have hg := hg'; clear hg'; have hr := hg.rules.1; have hf := hg.rules.2; have hr2 := hn.rules.1; have hf2 := hn.rules.2; have hz := hg.size; (try simp only [World.size_alloc] at hz); have hz2 := hn.size; (try simp only [World.size_alloc] at hz2); (try clear hy1); (try clear hy2); (try clear hy3); (try have hy1 : w.heap.size < w'.heap.size := by omega); (try have hy2 : w.heap.size + 1 < w'.heap.size := by omega); (try have hy3 : w.heap.size + 1 + 1 < w'.heap.size := by omega); clear hn))
    go_ret2
    exact ⟨ret_int2 T.out rfl, by repeat (first | (with_reducible exact Gr.refl _) | (with_reducible assumption) | (with_reducible refine Gr.alloc ?_ _) | (with_reducible refine Gr.drewN ?_ _) | (with_reducible refine Gr.drew ?_) | (with_reducible refine Gr.grown ?_ _ _) | (with_reducible refine Gr.regrown ?_ _ _) | (with_reducible refine Gr.setCell ?_ (by first | omega | (simp; omega) | simp) _) | (with_reducible refine Gr.trans ?_ (by with_reducible assumption)))⟩

set_option maxHeartbeats 2000000 in
theorem rcurrent_any (f : Fl) (s : Int) (w : World) (wp : f.pe ≤ 9223372036854775807 ∧ -9223372036854775808 ≤ f.pe) :
    Calls Try.prog 25 #[.agg #[.int .i64 f.id, .int .i64 f.fr, .int .i64 f.to, .int .i64 f.pe, .int .i64 f.ph, .int .i64 f.de], .int .i64 s] w fun e w' => e = .returned (.tuple #[.int .i64 (Fw.curN f s), .bool (Fw.curB f s)]) ∧ Gr w w' := by
  by_cases hr : Fw.curOk f s
  · have N : Hid ((s - f.ph) / f.pe = Fw.curN f s) := by unfold Fw.curN; rw [if_pos hr]; rfl
    have B : Hid (true = Fw.curB f s) := (decide_eq_true hr).symm
    obtain ⟨hc, h0, h1⟩ := hr
    obtain ⟨hok, -⟩ := Fw.chk_inv hc
    have q1 := hok.2.2.2.1
    have q2 := hok.2.2.2.2.1
    have q3 := hok.2.2.1
    have q4 := hok.2.1
    have b1 := bt (⟨h0, h1⟩ : f.ph ≤ s ∧ s ≤ 1099511627776)
    clear hok
    go_enter Try.func25, Try.ntmps25
    go_wp2_with (first | (go_at_call 38; refine (fault_any 32 f _ (by omega) (by omega) wp).mono ?_; rintro e w' ⟨rfl, hn⟩; (first | have hg' := Gr.trans hg hn | have hg' := Gr.trans (Gr.alloc hg _) hn | have hg' := Gr.trans (Gr.drewN hg _) hn | have hg' := Gr.trans (Gr.alloc (Gr.alloc hg _) _) hn | have hg' := hn); (try clear hr hf hr2 hf2 hz hz2); (try clear hg); have hg := hg'; clear hg'; have hr := hg.rules.1; have hf := hg.rules.2; have hr2 := hn.rules.1; have hf2 := hn.rules.2; have hz := hg.size; (try simp only [World.size_alloc] at hz); have hz2 := hn.size; (try simp only [World.size_alloc] at hz2); (try clear hy1); (try clear hy2); (try clear hy3); (try have hy1 : w.heap.size < w'.heap.size := by omega); (try have hy2 : w.heap.size + 1 < w'.heap.size := by omega); (try have hy3 : w.heap.size + 1 + 1 < w'.heap.size := by omega); clear hn) | (go_at_call 37; refine (in_any _ _ _ _).mono ?_; rintro e w' ⟨rfl, rfl⟩))
    go_ret2
    exact ⟨ret_ib N.out B.out, by repeat (first | (with_reducible exact Gr.refl _) | (with_reducible assumption) | (with_reducible refine Gr.alloc ?_ _) | (with_reducible refine Gr.drewN ?_ _) | (with_reducible refine Gr.drew ?_) | (with_reducible refine Gr.grown ?_ _ _) | (with_reducible refine Gr.regrown ?_ _ _) | (with_reducible refine Gr.setCell ?_ (by first | omega | (simp; omega) | simp) _) | (with_reducible refine Gr.trans ?_ (by with_reducible assumption)))⟩
  · have N : Hid (0 = Fw.curN f s) := by unfold Fw.curN; rw [if_neg hr]; rfl
    have B : Hid (false = Fw.curB f s) := (decide_eq_false hr).symm
    rcases chk_012 32 f with hc | hc
    · have b1 := bf (p := f.ph ≤ s ∧ s ≤ 1099511627776) (fun h => hr ⟨hc, h.1, h.2⟩)
      clear hr
      go_enter Try.func25, Try.ntmps25
      go_wp2_with (first | (go_at_call 38; refine (fault_any 32 f _ (by omega) (by omega) wp).mono ?_; rintro e w' ⟨rfl, hn⟩; (first | have hg' := Gr.trans hg hn | have hg' := Gr.trans (Gr.alloc hg _) hn | have hg' := Gr.trans (Gr.drewN hg _) hn | have hg' := Gr.trans (Gr.alloc (Gr.alloc hg _) _) hn | have hg' := hn); (try clear hr hf hr2 hf2 hz hz2); (try clear hg); have hg := hg'; clear hg'; have hr := hg.rules.1; have hf := hg.rules.2; have hr2 := hn.rules.1; have hf2 := hn.rules.2; have hz := hg.size; (try simp only [World.size_alloc] at hz); have hz2 := hn.size; (try simp only [World.size_alloc] at hz2); (try clear hy1); (try clear hy2); (try clear hy3); (try have hy1 : w.heap.size < w'.heap.size := by omega); (try have hy2 : w.heap.size + 1 < w'.heap.size := by omega); (try have hy3 : w.heap.size + 1 + 1 < w'.heap.size := by omega); clear hn) | (go_at_call 37; refine (in_any _ _ _ _).mono ?_; rintro e w' ⟨rfl, rfl⟩))
      go_ret2
      exact ⟨ret_ib N.out B.out, by repeat (first | (with_reducible exact Gr.refl _) | (with_reducible assumption) | (with_reducible refine Gr.alloc ?_ _) | (with_reducible refine Gr.drewN ?_ _) | (with_reducible refine Gr.drew ?_) | (with_reducible refine Gr.grown ?_ _ _) | (with_reducible refine Gr.regrown ?_ _ _) | (with_reducible refine Gr.setCell ?_ (by first | omega | (simp; omega) | simp) _) | (with_reducible refine Gr.trans ?_ (by with_reducible assumption)))⟩
    · clear hr
      go_enter Try.func25, Try.ntmps25
      go_wp2_with (first | (go_at_call 38; refine (fault_any 32 f _ (by omega) (by omega) wp).mono ?_; rintro e w' ⟨rfl, hn⟩; (first | have hg' := Gr.trans hg hn | have hg' := Gr.trans (Gr.alloc hg _) hn | have hg' := Gr.trans (Gr.drewN hg _) hn | have hg' := Gr.trans (Gr.alloc (Gr.alloc hg _) _) hn | have hg' := hn); (try clear hr hf hr2 hf2 hz hz2); (try clear hg); have hg := hg'; clear hg'; have hr := hg.rules.1; have hf := hg.rules.2; have hr2 := hn.rules.1; have hf2 := hn.rules.2; have hz := hg.size; (try simp only [World.size_alloc] at hz); have hz2 := hn.size; (try simp only [World.size_alloc] at hz2); (try clear hy1); (try clear hy2); (try clear hy3); (try have hy1 : w.heap.size < w'.heap.size := by omega); (try have hy2 : w.heap.size + 1 < w'.heap.size := by omega); (try have hy3 : w.heap.size + 1 + 1 < w'.heap.size := by omega); clear hn) | (go_at_call 37; refine (in_any _ _ _ _).mono ?_; rintro e w' ⟨rfl, rfl⟩))
      go_ret2
      exact ⟨ret_ib N.out B.out, by repeat (first | (with_reducible exact Gr.refl _) | (with_reducible assumption) | (with_reducible refine Gr.alloc ?_ _) | (with_reducible refine Gr.drewN ?_ _) | (with_reducible refine Gr.drew ?_) | (with_reducible refine Gr.grown ?_ _ _) | (with_reducible refine Gr.regrown ?_ _ _) | (with_reducible refine Gr.setCell ?_ (by first | omega | (simp; omega) | simp) _) | (with_reducible refine Gr.trans ?_ (by with_reducible assumption)))⟩
end Go.Proofs.Ytabckmanijcndaa

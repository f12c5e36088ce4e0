/- The contracts of package flow's check, alone, release, Window; loop's release. -/
import Derived.Test.YtckkjiaoaeaaoaaRows
import Derived.Test.YtckkjiaoaeaaoaaGr
import Derived.Test.YtckkjiaoaeaaoaaRet
import Derived.Test.YtckkjiaoaeaaoaaFlwPlain
import Derived.WalkLawsBesides
import Derived.Laws.EntriesVeiled
import Derived.Handy
import Derived.Deep.LoopGhost
namespace Go.Proofs.Ytckkjiaoaeaaoaa
open Go.RowKit Go.Sort
set_option linter.unusedVariables false

/-- a flow as a value -/
abbrev flV (f : Fl) : Value := .agg #[.int .i64 f.id, .int .i64 f.fr, .int .i64 f.to, .int .i64 f.pe, .int .i64 f.ph, .int .i64 f.de]

set_option maxHeartbeats 400000 in
theorem node_any (n m : Int) (B : Nat) (w : World) (c0 : w.cell? ⟨B, 0, none⟩ = some (.int .i64 m)) :
    Calls Try.prog 63 #[.int .i64 n, .pointer (some ⟨B, 0, none⟩)] w fun e w' => e = .returned (.bool (decide (0 ≤ n ∧ n < m))) ∧ w' = w := by
  by_cases h : 0 ≤ n
  all_goals
    go_enter Try.func63, Try.ntmps63
    go_wp2_with fail
    go_ret
    exact ⟨ret_bool (by simp <;> omega), rfl⟩

set_option maxHeartbeats 4000000 in
theorem fcheck_any (n : Int) (f : Fl) (w : World) :
    Calls Try.prog 62 #[.int .i64 n, .agg #[.int .i64 f.id, .int .i64 f.fr, .int .i64 f.to, .int .i64 f.pe, .int .i64 f.ph, .int .i64 f.de]] w fun e w' => e = .returned (.int .i64 (Fw.chk n f)) ∧ Gr w w' := by
  by_cases hfr : 0 ≤ f.fr ∧ f.fr < n
  · have b1 := bt hfr
    by_cases hto : 0 ≤ f.to ∧ f.to < n
    · have b2 := bt hto
      obtain ⟨x1, x2⟩ := hfr
      obtain ⟨x3, x4⟩ := hto
      by_cases q : f.fr = f.to
      all_goals
        have HF := Lib.hid q
        have X1 := Lib.hid x1
        have X2 := Lib.hid x2
        have X3 := Lib.hid x3
        have X4 := Lib.hid x4
        go_enter Try.func62, Try.ntmps62
        go_wp2_with (first | (go_at_call 63; refine (node_any _ n _ _ (by go_simp)).mono ?_; rintro e w' ⟨rfl, rfl⟩))
        all_goals
          go_ret
          refine ⟨?_, by repeat (first | (with_reducible exact Gr.refl _) | (with_reducible assumption) | (with_reducible refine Gr.alloc ?_ _) | (with_reducible refine Gr.drewN ?_ _) | (with_reducible refine Gr.drew ?_) | (with_reducible refine Gr.grown ?_ _ _) | (with_reducible refine Gr.regrown ?_ _ _) | (with_reducible refine Gr.setCell ?_ (by first | omega | (simp; omega) | simp) _) | (with_reducible refine Gr.trans ?_ (by with_reducible assumption)))⟩
          have y1 := X1.out
          have y2 := X2.out
          have y3 := X3.out
          have y4 := X4.out
          first | exact ret_int (Fw.chk_no (n := n) (f := f) (fun h => by unfold Fw.okR at h; omega)).symm | exact ret_int (Fw.chk_same (n := n) (f := f) (by unfold Fw.okR; omega) HF.out).symm | exact ret_int (Fw.chk_ok (n := n) (f := f) (by unfold Fw.okR; omega) HF.out).symm
    · have b2 := bf hto
      obtain ⟨x1, x2⟩ := hfr
      go_enter Try.func62, Try.ntmps62
      go_wp2_with (first | (go_at_call 63; refine (node_any _ n _ _ (by go_simp)).mono ?_; rintro e w' ⟨rfl, rfl⟩))
      all_goals
        go_ret
        refine ⟨?_, by repeat (first | (with_reducible exact Gr.refl _) | (with_reducible assumption) | (with_reducible refine Gr.alloc ?_ _) | (with_reducible refine Gr.drewN ?_ _) | (with_reducible refine Gr.drew ?_) | (with_reducible refine Gr.grown ?_ _ _) | (with_reducible refine Gr.regrown ?_ _ _) | (with_reducible refine Gr.setCell ?_ (by first | omega | (simp; omega) | simp) _) | (with_reducible refine Gr.trans ?_ (by with_reducible assumption)))⟩
        first | exact ret_int (Fw.chk_no (n := n) (f := f) (fun h => by unfold Fw.okR at h; omega)).symm | exact ret_int (Fw.chk_same (n := n) (f := f) (by unfold Fw.okR; omega) (by first | assumption | omega)).symm | exact ret_int (Fw.chk_ok (n := n) (f := f) (by unfold Fw.okR; omega) (by first | assumption | omega)).symm
  · have b1 := bf hfr
    go_enter Try.func62, Try.ntmps62
    go_wp2_with (first | (go_at_call 63; refine (node_any _ n _ _ (by go_simp)).mono ?_; rintro e w' ⟨rfl, rfl⟩))
    all_goals
      go_ret
      refine ⟨?_, by repeat (first | (with_reducible exact Gr.refl _) | (with_reducible assumption) | (with_reducible refine Gr.alloc ?_ _) | (with_reducible refine Gr.drewN ?_ _) | (with_reducible refine Gr.drew ?_) | (with_reducible refine Gr.grown ?_ _ _) | (with_reducible refine Gr.regrown ?_ _ _) | (with_reducible refine Gr.setCell ?_ (by first | omega | (simp; omega) | simp) _) | (with_reducible refine Gr.trans ?_ (by with_reducible assumption)))⟩
      first | exact ret_int (Fw.chk_no (n := n) (f := f) (fun h => by unfold Fw.okR at h; omega)).symm | exact ret_int (Fw.chk_same (n := n) (f := f) (by unfold Fw.okR; omega) (by first | assumption | omega)).symm | exact ret_int (Fw.chk_ok (n := n) (f := f) (by unfold Fw.okR; omega) (by first | assumption | omega)).symm

set_option maxHeartbeats 400000 in
theorem alone_any (f : Fl) (w : World) :
    Calls Try.prog 61 #[.agg #[.int .i64 f.id, .int .i64 f.fr, .int .i64 f.to, .int .i64 f.pe, .int .i64 f.ph, .int .i64 f.de]] w fun e w' => e = .returned (.int .i64 (Fw.chk 32 f)) ∧ Gr w w' := by
  go_enter Try.func61, Try.ntmps61
  go_wp2_with (first | (go_at_call 62; refine (fcheck_any _ _ _).mono ?_; rintro e w' ⟨rfl, hn⟩; (first | have hg' := Gr.trans hg hn | have hg' := Gr.trans (Gr.alloc hg _) hn | have hg' := Gr.trans (Gr.drewN hg _) hn | have hg' := Gr.trans (Gr.alloc (Gr.alloc hg _) _) hn | have hg' := hn); (try clear hr hf hr2 hf2 hz hz2); (try clear hg); have hg := hg'; clear hg'; have hr := hg.rules.1; have hf := hg.rules.2; have hr2 := hn.rules.1; have hf2 := hn.rules.2; have hz := hg.size; (try simp only [World.size_alloc] at hz); have hz2 := hn.size; (try simp only [World.size_alloc] at hz2); (try clear hy1); (try clear hy2); (try clear hy3); (try have hy1 : w.heap.size < w'.heap.size := by omega); (try have hy2 : w.heap.size + 1 < w'.heap.size := by omega); (try have hy3 : w.heap.size + 1 + 1 < w'.heap.size := by omega); clear hn))
  go_ret
  exact ⟨rfl, by repeat (first | (with_reducible exact Gr.refl _) | (with_reducible assumption) | (with_reducible refine Gr.alloc ?_ _) | (with_reducible refine Gr.drewN ?_ _) | (with_reducible refine Gr.drew ?_) | (with_reducible refine Gr.grown ?_ _ _) | (with_reducible refine Gr.regrown ?_ _ _) | (with_reducible refine Gr.setCell ?_ (by first | omega | (simp; omega) | simp) _) | (with_reducible refine Gr.trans ?_ (by with_reducible assumption)))⟩

theorem chk_012 (n : Int) (f : Fl) : Fw.chk n f = 0 ∨ (Fw.chk n f != 0) = true := by
  by_cases h : Fw.chk n f = 0
  · exact .inl h
  · exact .inr (by simpa using h)

set_option maxHeartbeats 1000000 in
theorem release_any (f : Fl) (k : Int) (w : World) :
    Calls Try.prog 60 #[.agg #[.int .i64 f.id, .int .i64 f.fr, .int .i64 f.to, .int .i64 f.pe, .int .i64 f.ph, .int .i64 f.de], .int .i64 k] w fun e w' => e = .returned (.tuple #[.int .i64 (Fw.relN f k), .int .i64 (Fw.relE f k)]) ∧ Gr w w' := by
  rcases chk_012 32 f with hc | hc
  · obtain ⟨hok, -⟩ := Fw.chk_inv hc
    by_cases h0 : 0 ≤ k
    · by_cases h1 : k ≤ 1099511627776
      · obtain ⟨p1, p2⟩ := Fw.pr_bd hok h0 h1
        have q1 := hok.2.2.2.1
        have q2 := hok.2.2.2.2.1
        have q3 := hok.2.2.1
        by_cases h2 : f.ph + k * f.pe ≤ 1099511627776
        · have hr : Fw.relOk f k := ⟨hc, h0, h1, h2⟩
          have N : Hid (f.ph + k * f.pe = Fw.relN f k) := by unfold Fw.relN; rw [if_pos hr]; rfl
          have E : Hid (0 = Fw.relE f k) := by unfold Fw.relE; rw [if_pos hc, if_pos hr]; rfl
          clear hok hr
          go_enter Try.func60, Try.ntmps60
          go_wp2_with (first | (go_at_call 61; refine (alone_any _ _).mono ?_; rintro e w' ⟨rfl, hn⟩; (first | have hg' := Gr.trans hg hn | have hg' := Gr.trans (Gr.alloc hg _) hn | have hg' := Gr.trans (Gr.drewN hg _) hn | have hg' := Gr.trans (Gr.alloc (Gr.alloc hg _) _) hn | have hg' := hn); (try clear hr hf hr2 hf2 hz hz2); (try clear hg); have hg := hg'; clear hg'; have hr := hg.rules.1; have hf := hg.rules.2; have hr2 := hn.rules.1; have hf2 := hn.rules.2; have hz := hg.size; (try simp only [World.size_alloc] at hz); have hz2 := hn.size; (try simp only [World.size_alloc] at hz2); (try clear hy1); (try clear hy2); (try clear hy3); (try have hy1 : w.heap.size < w'.heap.size := by omega); (try have hy2 : w.heap.size + 1 < w'.heap.size := by omega); (try have hy3 : w.heap.size + 1 + 1 < w'.heap.size := by omega); clear hn))
          go_ret2
          exact ⟨ret_int2 N.out E.out, by repeat (first | (with_reducible exact Gr.refl _) | (with_reducible assumption) | (with_reducible refine Gr.alloc ?_ _) | (with_reducible refine Gr.drewN ?_ _) | (with_reducible refine Gr.drew ?_) | (with_reducible refine Gr.grown ?_ _ _) | (with_reducible refine Gr.regrown ?_ _ _) | (with_reducible refine Gr.setCell ?_ (by first | omega | (simp; omega) | simp) _) | (with_reducible refine Gr.trans ?_ (by with_reducible assumption)))⟩
        · have hr : ¬ Fw.relOk f k := fun h => h2 h.2.2.2
          have N : Hid (0 = Fw.relN f k) := by unfold Fw.relN; rw [if_neg hr]; rfl
          have E : Hid (2 = Fw.relE f k) := by unfold Fw.relE; rw [if_pos hc, if_neg hr]; rfl
          clear hok hr
          go_enter Try.func60, Try.ntmps60
          go_wp2_with (first | (go_at_call 61; refine (alone_any _ _).mono ?_; rintro e w' ⟨rfl, hn⟩; (first | have hg' := Gr.trans hg hn | have hg' := Gr.trans (Gr.alloc hg _) hn | have hg' := Gr.trans (Gr.drewN hg _) hn | have hg' := Gr.trans (Gr.alloc (Gr.alloc hg _) _) hn | have hg' := hn); (try clear hr hf hr2 hf2 hz hz2); (try clear hg); have hg := hg'; clear hg'; have hr := hg.rules.1; have hf := hg.rules.2; have hr2 := hn.rules.1; have hf2 := hn.rules.2; have hz := hg.size; (try simp only [World.size_alloc] at hz); have hz2 := hn.size; (try simp only [World.size_alloc] at hz2); (try clear hy1); (try clear hy2); (try clear hy3); (try have hy1 : w.heap.size < w'.heap.size := by omega); (try have hy2 : w.heap.size + 1 < w'.heap.size := by omega); (try have hy3 : w.heap.size + 1 + 1 < w'.heap.size := by omega); clear hn))
          go_ret2
          exact ⟨ret_int2 N.out E.out, by repeat (first | (with_reducible exact Gr.refl _) | (with_reducible assumption) | (with_reducible refine Gr.alloc ?_ _) | (with_reducible refine Gr.drewN ?_ _) | (with_reducible refine Gr.drew ?_) | (with_reducible refine Gr.grown ?_ _ _) | (with_reducible refine Gr.regrown ?_ _ _) | (with_reducible refine Gr.setCell ?_ (by first | omega | (simp; omega) | simp) _) | (with_reducible refine Gr.trans ?_ (by with_reducible assumption)))⟩
      · have hr : ¬ Fw.relOk f k := fun h => h1 h.2.2.1
        have N : Hid (0 = Fw.relN f k) := by unfold Fw.relN; rw [if_neg hr]; rfl
        have E : Hid (2 = Fw.relE f k) := by unfold Fw.relE; rw [if_pos hc, if_neg hr]; rfl
        clear hok hr
        go_enter Try.func60, Try.ntmps60
        go_wp2_with (first | (go_at_call 61; refine (alone_any _ _).mono ?_; rintro e w' ⟨rfl, hn⟩; (first | have hg' := Gr.trans hg hn | have hg' := Gr.trans (Gr.alloc hg _) hn | have hg' := Gr.trans (Gr.drewN hg _) hn | have hg' := Gr.trans (Gr.alloc (Gr.alloc hg _) _) hn | have hg' := hn); (try clear hr hf hr2 hf2 hz hz2); (try clear hg); have hg := hg'; clear hg'; have hr := hg.rules.1; have hf := hg.rules.2; have hr2 := hn.rules.1; have hf2 := hn.rules.2; have hz := hg.size; (try simp only [World.size_alloc] at hz); have hz2 := hn.size; (try simp only [World.size_alloc] at hz2); (try clear hy1); (try clear hy2); (try clear hy3); (try have hy1 : w.heap.size < w'.heap.size := by omega); (try have hy2 : w.heap.size + 1 < w'.heap.size := by omega); (try have hy3 : w.heap.size + 1 + 1 < w'.heap.size := by omega); clear hn))
        go_ret2
        exact ⟨ret_int2 N.out E.out, by repeat (first | (with_reducible exact Gr.refl _) | (with_reducible assumption) | (with_reducible refine Gr.alloc ?_ _) | (with_reducible refine Gr.drewN ?_ _) | (with_reducible refine Gr.drew ?_) | (with_reducible refine Gr.grown ?_ _ _) | (with_reducible refine Gr.regrown ?_ _ _) | (with_reducible refine Gr.setCell ?_ (by first | omega | (simp; omega) | simp) _) | (with_reducible refine Gr.trans ?_ (by with_reducible assumption)))⟩
    · have hr : ¬ Fw.relOk f k := fun h => h0 h.2.1
      have N : Hid (0 = Fw.relN f k) := by unfold Fw.relN; rw [if_neg hr]; rfl
      have E : Hid (2 = Fw.relE f k) := by unfold Fw.relE; rw [if_pos hc, if_neg hr]; rfl
      clear hok hr
      go_enter Try.func60, Try.ntmps60
      go_wp2_with (first | (go_at_call 61; refine (alone_any _ _).mono ?_; rintro e w' ⟨rfl, hn⟩; (first | have hg' := Gr.trans hg hn | have hg' := Gr.trans (Gr.alloc hg _) hn | have hg' := Gr.trans (Gr.drewN hg _) hn | have hg' := Gr.trans (Gr.alloc (Gr.alloc hg _) _) hn | have hg' := hn); (try clear hr hf hr2 hf2 hz hz2); (try clear hg); have hg := hg'; clear hg'; have hr := hg.rules.1; have hf := hg.rules.2; have hr2 := hn.rules.1; have hf2 := hn.rules.2; have hz := hg.size; (try simp only [World.size_alloc] at hz); have hz2 := hn.size; (try simp only [World.size_alloc] at hz2); (try clear hy1); (try clear hy2); (try clear hy3); (try have hy1 : w.heap.size < w'.heap.size := by omega); (try have hy2 : w.heap.size + 1 < w'.heap.size := by omega); (try have hy3 : w.heap.size + 1 + 1 < w'.heap.size := by omega); clear hn))
      go_ret2
      exact ⟨ret_int2 N.out E.out, by repeat (first | (with_reducible exact Gr.refl _) | (with_reducible assumption) | (with_reducible refine Gr.alloc ?_ _) | (with_reducible refine Gr.drewN ?_ _) | (with_reducible refine Gr.drew ?_) | (with_reducible refine Gr.grown ?_ _ _) | (with_reducible refine Gr.regrown ?_ _ _) | (with_reducible refine Gr.setCell ?_ (by first | omega | (simp; omega) | simp) _) | (with_reducible refine Gr.trans ?_ (by with_reducible assumption)))⟩
  · have hr : ¬ Fw.relOk f k := fun h => by rw [h.1] at hc; exact absurd hc (by decide)
    have N : Hid (0 = Fw.relN f k) := by unfold Fw.relN; rw [if_neg hr]; rfl
    have E : Hid (1 = Fw.relE f k) := by unfold Fw.relE; rw [if_neg (by simpa using hc)]; rfl
    clear hr
    go_enter Try.func60, Try.ntmps60
    go_wp2_with (first | (go_at_call 61; refine (alone_any _ _).mono ?_; rintro e w' ⟨rfl, hn⟩; (first | have hg' := Gr.trans hg hn | have hg' := Gr.trans (Gr.alloc hg _) hn | have hg' := Gr.trans (Gr.drewN hg _) hn | have hg' := Gr.trans (Gr.alloc (Gr.alloc hg _) _) hn | have hg' := hn); (try clear hr hf hr2 hf2 hz hz2); (try clear hg); have hg := hg'; clear hg'; have hr := hg.rules.1; have hf := hg.rules.2; have hr2 := hn.rules.1; have hf2 := hn.rules.2; have hz := hg.size; (try simp only [World.size_alloc] at hz); have hz2 := hn.size; (try simp only [World.size_alloc] at hz2); (try clear hy1); (try clear hy2); (try clear hy3); (try have hy1 : w.heap.size < w'.heap.size := by omega); (try have hy2 : w.heap.size + 1 < w'.heap.size := by omega); (try have hy3 : w.heap.size + 1 + 1 < w'.heap.size := by omega); clear hn))
    go_ret2
    exact ⟨ret_int2 N.out E.out, by repeat (first | (with_reducible exact Gr.refl _) | (with_reducible assumption) | (with_reducible refine Gr.alloc ?_ _) | (with_reducible refine Gr.drewN ?_ _) | (with_reducible refine Gr.drew ?_) | (with_reducible refine Gr.grown ?_ _ _) | (with_reducible refine Gr.regrown ?_ _ _) | (with_reducible refine Gr.setCell ?_ (by first | omega | (simp; omega) | simp) _) | (with_reducible refine Gr.trans ?_ (by with_reducible assumption)))⟩

theorem rel_inv {f : Fl} {k : Int} (h : Fw.relE f k = 0) : Fw.relOk f k ∧ Fw.relN f k = f.ph + k * f.pe := by
  unfold Fw.relE at h
  split at h
  · split at h
    · rename_i h2; exact ⟨h2, if_pos h2⟩
    · exact absurd h (by decide)
  · exact absurd h (by decide)

set_option maxHeartbeats 1000000 in
theorem window_any (f : Fl) (k : Int) (w : World) :
    Calls Try.prog 58 #[.agg #[.int .i64 f.id, .int .i64 f.fr, .int .i64 f.to, .int .i64 f.pe, .int .i64 f.ph, .int .i64 f.de], .int .i64 k] w fun e w' => e = .returned (.tuple #[.int .i64 (Fw.relN f k), .int .i64 (Fw.winT f k), .int .i64 (Fw.relE f k)]) ∧ Gr w w' := by
  by_cases he : Fw.relE f k = 0
  · obtain ⟨hr, n1⟩ := rel_inv he
    obtain ⟨hok, -⟩ := Fw.chk_inv hr.1
    obtain ⟨p1, p2⟩ := Fw.pr_bd hok hr.2.1 hr.2.2.1
    have q1 := hok.2.2.2.1
    have q2 := hok.2.2.2.2.1
    have q3 := hok.2.2.1
    have T : Hid (f.ph + k * f.pe + f.pe - 1 = Fw.winT f k) := by unfold Fw.winT; rw [if_pos hr]; rfl
    clear hok hr
    go_enter Try.func58, Try.ntmps58
    go_wp2_with (first | (go_at_call 60; refine (release_any _ _ _).mono ?_; rintro e w' ⟨rfl, hn⟩; (first | have hg' := Gr.trans hg hn | have hg' := Gr.trans (Gr.alloc hg _) hn | have hg' := Gr.trans (Gr.drewN hg _) hn | have hg' := Gr.trans (Gr.alloc (Gr.alloc hg _) _) hn | have hg' := hn); (try clear hr hf hr2 hf2 hz hz2); (try clear hg); have hg := hg'; clear hg'; have hr := hg.rules.1; have hf := hg.rules.2; have hr2 := hn.rules.1; have hf2 := hn.rules.2; have hz := hg.size; (try simp only [World.size_alloc] at hz); have hz2 := hn.size; (try simp only [World.size_alloc] at hz2); (try clear hy1); (try clear hy2); (try clear hy3); (try have hy1 : w.heap.size < w'.heap.size := by omega); (try have hy2 : w.heap.size + 1 < w'.heap.size := by omega); (try have hy3 : w.heap.size + 1 + 1 < w'.heap.size := by omega); clear hn))
    have c3 : w'.cell? ⟨w.heap.size, 3, none⟩ = some (.int .i64 f.pe) := Eq.trans (Gr.cell hg (by first | (simp; done) | (simp; omega) | omega)) (by go_simp)
    go_quiet (fail)
    go_wp2_with fail
    go_ret3
    exact ⟨ret_int3 n1.symm T.out he.symm, by repeat (first | (with_reducible exact Gr.refl _) | (with_reducible assumption) | (with_reducible refine Gr.alloc ?_ _) | (with_reducible refine Gr.drewN ?_ _) | (with_reducible refine Gr.drew ?_) | (with_reducible refine Gr.grown ?_ _ _) | (with_reducible refine Gr.regrown ?_ _ _) | (with_reducible refine Gr.setCell ?_ (by first | omega | (simp; omega) | simp) _) | (with_reducible refine Gr.trans ?_ (by with_reducible assumption)))⟩
  · have hr : ¬ Fw.relOk f k := fun h => he (by unfold Fw.relE; rw [if_pos h.1, if_pos h])
    have N : Hid (0 = Fw.relN f k) := by unfold Fw.relN; rw [if_neg hr]; rfl
    have T : Hid (0 = Fw.winT f k) := by unfold Fw.winT; rw [if_neg hr]; rfl
    have hb : (Fw.relE f k != 0) = true := by simpa using he
    clear hr he
    go_enter Try.func58, Try.ntmps58
    go_wp2_with (first | (go_at_call 60; refine (release_any _ _ _).mono ?_; rintro e w' ⟨rfl, hn⟩; (first | have hg' := Gr.trans hg hn | have hg' := Gr.trans (Gr.alloc hg _) hn | have hg' := Gr.trans (Gr.drewN hg _) hn | have hg' := Gr.trans (Gr.alloc (Gr.alloc hg _) _) hn | have hg' := hn); (try clear hr hf hr2 hf2 hz hz2); (try clear hg); have hg := hg'; clear hg'; have hr := hg.rules.1; have hf := hg.rules.2; have hr2 := hn.rules.1; have hf2 := hn.rules.2; have hz := hg.size; (try simp only [World.size_alloc] at hz); have hz2 := hn.size; (try simp only [World.size_alloc] at hz2); (try clear hy1); (try clear hy2); (try clear hy3); (try have hy1 : w.heap.size < w'.heap.size := by omega); (try have hy2 : w.heap.size + 1 < w'.heap.size := by omega); (try have hy3 : w.heap.size + 1 + 1 < w'.heap.size := by omega); clear hn))
    go_ret3
    exact ⟨ret_int3 N.out T.out rfl, by repeat (first | (with_reducible exact Gr.refl _) | (with_reducible assumption) | (with_reducible refine Gr.alloc ?_ _) | (with_reducible refine Gr.drewN ?_ _) | (with_reducible refine Gr.drew ?_) | (with_reducible refine Gr.grown ?_ _ _) | (with_reducible refine Gr.regrown ?_ _ _) | (with_reducible refine Gr.setCell ?_ (by first | omega | (simp; omega) | simp) _) | (with_reducible refine Gr.trans ?_ (by with_reducible assumption)))⟩


theorem flV_eq (f : Fl) : flV f = .agg #[.int .i64 f.id, .int .i64 f.fr, .int .i64 f.to, .int .i64 f.pe, .int .i64 f.ph, .int .i64 f.de] := rfl
set_option maxHeartbeats 1000000 in
theorem lrelease_any (f : Fl) (k : Int) (w : World) (hc : Fw.chk 32 f = 0) (k0 : 0 ≤ k) (k1 : k ≤ 1073741824) :
    Calls Try.prog 52 #[.agg #[.int .i64 f.id, .int .i64 f.fr, .int .i64 f.to, .int .i64 f.pe, .int .i64 f.ph, .int .i64 f.de], .int .i64 k] w fun e w' => e = .returned (.int .i64 (f.ph + k * f.pe)) ∧ Gr w w' := by
  have C1 := fun W => window_any f k W
  have hr : Fw.relOk f k := by
    obtain ⟨ho, -⟩ := Fw.chk_inv hc
    obtain ⟨_, p1, p2, p3, p4, _⟩ := ho
    have h1 : k * f.pe ≤ 1073741824 * 512 := Int.mul_le_mul k1 p2 (by omega) (by decide)
    exact ⟨hc, k0, by omega, by omega⟩
  have E : Hid (Fw.relN f k = f.ph + k * f.pe) := (show _ = _ from if_pos hr)
  clear hr hc k0 k1
  go_enter Try.func52, Try.ntmps52
  go_wp2_with fail
  refine (C1 _).mono ?_
  rintro e w1 ⟨rfl, g1⟩
  have G1 : Aside (Gr w w1) := (Gr.alloc (Gr.refl _) _).trans g1
  clear g1 C1
  go_wp2_with fail
  go_ret
  exact ⟨ret_int E.out, G1.out⟩
end Go.Proofs.Ytckkjiaoaeaaoaa

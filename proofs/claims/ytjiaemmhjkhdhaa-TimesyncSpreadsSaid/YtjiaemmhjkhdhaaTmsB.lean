/- The contracts of timesync's correct, Hear and Acked. -/
import Derived.Test.YtjiaemmhjkhdhaaTmsA
namespace Go.Proofs.Ytjiaemmhjkhdhaa
open Go.RowKit Go.Sort

set_option maxHeartbeats 1000000 in
theorem correct_any (o d s c slot n : Int) (hc0 : 0 ≤ c) (hc1 : c ≤ 4096) (w : World) :
    Calls Try.prog 48 #[.agg #[.int .i64 o, .int .i64 d, .int .i64 s, .int .i64 c], .int .i64 slot, .int .i64 n] w fun e w' => e = .returned (.tuple #[.agg #[.int .i64 (Ts.cor o d s c slot n).o, .int .i64 (Ts.cor o d s c slot n).d, .int .i64 (Ts.cor o d s c slot n).s, .int .i64 (Ts.cor o d s c slot n).c], .int .i64 (Ts.cor o d s c slot n).e]) ∧ Gr w w' := by
  by_cases h1 : slot ≤ s
  · rw [Ts.cor_order h1]
    go_enter Try.func48, Try.ntmps48
    go_wp2_with fail
    go_returns
    exact ⟨rfl, by repeat (first | (with_reducible exact Gr.refl _) | (with_reducible assumption) | (with_reducible refine Gr.alloc ?_ _) | (with_reducible refine Gr.drewN ?_ _) | (with_reducible refine Gr.drew ?_) | (with_reducible refine Gr.grown ?_ _ _) | (with_reducible refine Gr.regrown ?_ _ _) | (with_reducible refine Gr.setCell ?_ (by first | omega | (simp; omega) | simp) _) | (with_reducible refine Gr.trans ?_ (by with_reducible assumption)))⟩
  · by_cases h2 : n < -4999 ∨ 4999 < n
    · rw [Ts.cor_late h1 h2]
      rcases h2 with h2 | h2
      all_goals
        go_enter Try.func48, Try.ntmps48
        go_wp2_with fail
        go_returns
        exact ⟨rfl, by repeat (first | (with_reducible exact Gr.refl _) | (with_reducible assumption) | (with_reducible refine Gr.alloc ?_ _) | (with_reducible refine Gr.drewN ?_ _) | (with_reducible refine Gr.drew ?_) | (with_reducible refine Gr.grown ?_ _ _) | (with_reducible refine Gr.regrown ?_ _ _) | (with_reducible refine Gr.setCell ?_ (by first | omega | (simp; omega) | simp) _) | (with_reducible refine Gr.trans ?_ (by with_reducible assumption)))⟩
    · by_cases h3 : c = 4096
      · rw [Ts.cor_full h1 h2 h3]
        subst h3
        go_enter Try.func48, Try.ntmps48
        go_wp2_with fail
        go_returns
        exact ⟨rfl, by repeat (first | (with_reducible exact Gr.refl _) | (with_reducible assumption) | (with_reducible refine Gr.alloc ?_ _) | (with_reducible refine Gr.drewN ?_ _) | (with_reducible refine Gr.drew ?_) | (with_reducible refine Gr.grown ?_ _ _) | (with_reducible refine Gr.regrown ?_ _ _) | (with_reducible refine Gr.setCell ?_ (by first | omega | (simp; omega) | simp) _) | (with_reducible refine Gr.trans ?_ (by with_reducible assumption)))⟩
      · have hb : (c == 4096) = false := by simpa using h3
        have hn : -4999 ≤ n ∧ n ≤ 4999 := by omega
        obtain ⟨n0, n1⟩ := hn
        by_cases h4 : Ck.adjOk o d n
        · rw [Ts.cor_ok h1 h2 h3 h4]
          obtain ⟨q1, q2, q3, q4⟩ := h4
          obtain ⟨a1, a2, a3⟩ := Ck.adj_ok q1 q2 q3 q4
          clear h2 h3
          go_enter Try.func48, Try.ntmps48
          go_wp2_with fail
          refine (adjust_any _ _ _ _).mono ?_
          rintro e w1 ⟨rfl, hg⟩
          obtain ⟨r0, f0⟩ := st_cells hg
          have hz := hg.size
          simp only [World.size_alloc] at hz
          have p0 : w1.cell? ⟨w.heap.size, 0, none⟩ = some (.int .i64 o) := Eq.trans (Gr.cell hg (by first | (simp; done) | (simp; omega) | omega)) (by go_simp); have p1 : w1.cell? ⟨w.heap.size, 1, none⟩ = some (.int .i64 d) := Eq.trans (Gr.cell hg (by first | (simp; done) | (simp; omega) | omega)) (by go_simp); have p2 : w1.cell? ⟨w.heap.size, 2, none⟩ = some (.int .i64 s) := Eq.trans (Gr.cell hg (by first | (simp; done) | (simp; omega) | omega)) (by go_simp); have p3 : w1.cell? ⟨w.heap.size, 3, none⟩ = some (.int .i64 c) := Eq.trans (Gr.cell hg (by first | (simp; done) | (simp; omega) | omega)) (by go_simp)
          have hy1 : w.heap.size < w1.heap.size := by omega
          have hy2 : w.heap.size + 1 < w1.heap.size := by omega
          go_wp2
          refine bodyPost_ret (v := .tuple #[.agg #[.int .i64 (o + n), .int .i64 d, .int .i64 slot, .int .i64 (c + 1)], .int .i64 0]) (by simp [results, Try.results48, go_sem, r0, hy2]) rfl ⟨rfl, by repeat (first | (with_reducible exact Gr.refl _) | (with_reducible assumption) | (with_reducible refine Gr.alloc ?_ _) | (with_reducible refine Gr.drewN ?_ _) | (with_reducible refine Gr.drew ?_) | (with_reducible refine Gr.grown ?_ _ _) | (with_reducible refine Gr.regrown ?_ _ _) | (with_reducible refine Gr.setCell ?_ (by first | omega | (simp; omega) | simp) _) | (with_reducible refine Gr.trans ?_ (by with_reducible assumption)))⟩
        · rw [Ts.cor_arg h1 h2 h3 h4]
          obtain ⟨a1, a2, a3⟩ := Ck.adj_no h4
          clear h2 h3 h4
          go_enter Try.func48, Try.ntmps48
          go_wp2_with fail
          refine (adjust_any _ _ _ _).mono ?_
          rintro e w1 ⟨rfl, hg⟩
          obtain ⟨r0, f0⟩ := st_cells hg
          have hz := hg.size
          simp only [World.size_alloc] at hz
          have hy2 : w.heap.size + 1 < w1.heap.size := by omega
          go_wp2
          refine bodyPost_ret (v := .tuple #[.agg #[.int .i64 0, .int .i64 0, .int .i64 0, .int .i64 0], .int .i64 1]) (by simp [results, Try.results48, go_sem, r0, hy2]) rfl ⟨rfl, by repeat (first | (with_reducible exact Gr.refl _) | (with_reducible assumption) | (with_reducible refine Gr.alloc ?_ _) | (with_reducible refine Gr.drewN ?_ _) | (with_reducible refine Gr.drew ?_) | (with_reducible refine Gr.grown ?_ _ _) | (with_reducible refine Gr.regrown ?_ _ _) | (with_reducible refine Gr.setCell ?_ (by first | omega | (simp; omega) | simp) _) | (with_reducible refine Gr.trans ?_ (by with_reducible assumption)))⟩

set_option maxHeartbeats 1000000 in
theorem hear_any (o d s c slot t : Int) (w : World) :
    Calls Try.prog 13 #[.agg #[.int .i64 o, .int .i64 d, .int .i64 s, .int .i64 c], .int .i64 slot, .int .i64 t] w fun e w' => e = .returned (.tuple #[.agg #[.int .i64 (Ts.hear o d s c slot t).o, .int .i64 (Ts.hear o d s c slot t).d, .int .i64 (Ts.hear o d s c slot t).s, .int .i64 (Ts.hear o d s c slot t).c], .int .i64 (Ts.hear o d s c slot t).e]) ∧ Gr w w' := by
  by_cases hk : Ts.okS o d s c
  · have h1 := Ts.chkS_ok hk
    have hc0 := hk.2.2.1
    have hc1 := hk.2.2.2.1
    obtain ⟨-, m1, m2⟩ := Ts.mea_bd (o := o) (d := d) (slot := slot) (t := t)
    by_cases hm : Ts.meaE o d slot t = 0
    · have hH : Ts.hear o d s c slot t = Ts.cor o d s c slot (-(Ts.meaN o d slot t)) := by unfold Ts.hear; rw [if_pos hk, if_pos hm]
      rw [hH]
      generalize hq : Ts.cor o d s c slot (-(Ts.meaN o d slot t)) = q
      have HQ := Lib.hid hq
      clear hq hH hk
      go_enter Try.func13, Try.ntmps13
      go_wp2_with (first | (go_at_call 17; refine (tcheck_any _ _ _ _ _).mono ?_; rintro e w' ⟨rfl, hn⟩; (first | have hg' := Gr.trans hg hn | have hg' := Gr.trans (Gr.alloc hg _) hn | have hg' := Gr.trans (Gr.drewN hg _) hn | have hg' := Gr.trans (Gr.alloc (Gr.alloc hg _) _) hn | have hg' := hn); (try clear hr hf hr2 hf2 hz hz2); (try clear hg); have hg := hg'; clear hg'; have hr := hg.rules.1; have hf := hg.rules.2; have hr2 := hn.rules.1; have hf2 := hn.rules.2; have hz := hg.size; (try simp only [World.size_alloc] at hz); have hz2 := hn.size; (try simp only [World.size_alloc] at hz2); (try clear hy1); (try clear hy2); (try clear hy3); (try have hy1 : w.heap.size < w'.heap.size := by omega); (try have hy2 : w.heap.size + 1 < w'.heap.size := by omega); (try have hy3 : w.heap.size + 1 + 1 < w'.heap.size := by omega); clear hn; (try clear r0 f0); obtain ⟨r0, f0⟩ := st_cells hg) | (go_at_call 11; refine (measure_any _ _ _ _ _).mono ?_; rintro e w' ⟨rfl, hn⟩; (first | have hg' := Gr.trans hg hn | have hg' := Gr.trans (Gr.alloc hg _) hn | have hg' := Gr.trans (Gr.drewN hg _) hn | have hg' := Gr.trans (Gr.alloc (Gr.alloc hg _) _) hn | have hg' := hn); (try clear hr hf hr2 hf2 hz hz2); (try clear hg); have hg := hg'; clear hg'; have hr := hg.rules.1; have hf := hg.rules.2; have hr2 := hn.rules.1; have hf2 := hn.rules.2; have hz := hg.size; (try simp only [World.size_alloc] at hz); have hz2 := hn.size; (try simp only [World.size_alloc] at hz2); (try clear hy1); (try clear hy2); (try clear hy3); (try have hy1 : w.heap.size < w'.heap.size := by omega); (try have hy2 : w.heap.size + 1 < w'.heap.size := by omega); (try have hy3 : w.heap.size + 1 + 1 < w'.heap.size := by omega); clear hn; (try clear r0 f0); obtain ⟨r0, f0⟩ := st_cells hg) | (go_at_call 48; refine (correct_any _ _ _ _ _ _ hc0 hc1 _).mono ?_; rw [HQ.out]; rintro e w' ⟨rfl, hn⟩; (first | have hg' := Gr.trans hg hn | have hg' := Gr.trans (Gr.alloc hg _) hn | have hg' := Gr.trans (Gr.drewN hg _) hn | have hg' := Gr.trans (Gr.alloc (Gr.alloc hg _) _) hn | have hg' := hn); (try clear hr hf hr2 hf2 hz hz2); (try clear hg); have hg := hg'; clear hg'; have hr := hg.rules.1; have hf := hg.rules.2; have hr2 := hn.rules.1; have hf2 := hn.rules.2; have hz := hg.size; (try simp only [World.size_alloc] at hz); have hz2 := hn.size; (try simp only [World.size_alloc] at hz2); (try clear hy1); (try clear hy2); (try clear hy3); (try have hy1 : w.heap.size < w'.heap.size := by omega); (try have hy2 : w.heap.size + 1 < w'.heap.size := by omega); (try have hy3 : w.heap.size + 1 + 1 < w'.heap.size := by omega); clear hn; (try clear r0 f0); obtain ⟨r0, f0⟩ := st_cells hg))
      refine bodyPost_ret (v := .tuple #[.agg #[.int .i64 (q).o, .int .i64 (q).d, .int .i64 (q).s, .int .i64 (q).c], .int .i64 (q).e]) (by simp [results, Try.results13, go_sem, r0]) rfl ⟨rfl, by repeat (first | (with_reducible exact Gr.refl _) | (with_reducible assumption) | (with_reducible refine Gr.alloc ?_ _) | (with_reducible refine Gr.drewN ?_ _) | (with_reducible refine Gr.drew ?_) | (with_reducible refine Gr.grown ?_ _ _) | (with_reducible refine Gr.regrown ?_ _ _) | (with_reducible refine Gr.setCell ?_ (by first | omega | (simp; omega) | simp) _) | (with_reducible refine Gr.trans ?_ (by with_reducible assumption)))⟩
    · have hH : Ts.hear o d s c slot t = Ts.no (Ts.meaE o d slot t) := by unfold Ts.hear; rw [if_pos hk, if_neg hm]
      rw [hH]
      have hb : (Ts.meaE o d slot t != 0) = true := by simpa using hm
      clear hH hk hm
      go_enter Try.func13, Try.ntmps13
      go_wp2_with (first | (go_at_call 17; refine (tcheck_any _ _ _ _ _).mono ?_; rintro e w' ⟨rfl, hn⟩; (first | have hg' := Gr.trans hg hn | have hg' := Gr.trans (Gr.alloc hg _) hn | have hg' := Gr.trans (Gr.drewN hg _) hn | have hg' := Gr.trans (Gr.alloc (Gr.alloc hg _) _) hn | have hg' := hn); (try clear hr hf hr2 hf2 hz hz2); (try clear hg); have hg := hg'; clear hg'; have hr := hg.rules.1; have hf := hg.rules.2; have hr2 := hn.rules.1; have hf2 := hn.rules.2; have hz := hg.size; (try simp only [World.size_alloc] at hz); have hz2 := hn.size; (try simp only [World.size_alloc] at hz2); (try clear hy1); (try clear hy2); (try clear hy3); (try have hy1 : w.heap.size < w'.heap.size := by omega); (try have hy2 : w.heap.size + 1 < w'.heap.size := by omega); (try have hy3 : w.heap.size + 1 + 1 < w'.heap.size := by omega); clear hn; (try clear r0 f0); obtain ⟨r0, f0⟩ := st_cells hg) | (go_at_call 11; refine (measure_any _ _ _ _ _).mono ?_; rintro e w' ⟨rfl, hn⟩; (first | have hg' := Gr.trans hg hn | have hg' := Gr.trans (Gr.alloc hg _) hn | have hg' := Gr.trans (Gr.drewN hg _) hn | have hg' := Gr.trans (Gr.alloc (Gr.alloc hg _) _) hn | have hg' := hn); (try clear hr hf hr2 hf2 hz hz2); (try clear hg); have hg := hg'; clear hg'; have hr := hg.rules.1; have hf := hg.rules.2; have hr2 := hn.rules.1; have hf2 := hn.rules.2; have hz := hg.size; (try simp only [World.size_alloc] at hz); have hz2 := hn.size; (try simp only [World.size_alloc] at hz2); (try clear hy1); (try clear hy2); (try clear hy3); (try have hy1 : w.heap.size < w'.heap.size := by omega); (try have hy2 : w.heap.size + 1 < w'.heap.size := by omega); (try have hy3 : w.heap.size + 1 + 1 < w'.heap.size := by omega); clear hn; (try clear r0 f0); obtain ⟨r0, f0⟩ := st_cells hg))
      refine bodyPost_ret (v := .tuple #[.agg #[.int .i64 0, .int .i64 0, .int .i64 0, .int .i64 0], .int .i64 (Ts.meaE o d slot t)]) (by simp [results, Try.results13, go_sem, r0]) rfl ⟨rfl, by repeat (first | (with_reducible exact Gr.refl _) | (with_reducible assumption) | (with_reducible refine Gr.alloc ?_ _) | (with_reducible refine Gr.drewN ?_ _) | (with_reducible refine Gr.drew ?_) | (with_reducible refine Gr.grown ?_ _ _) | (with_reducible refine Gr.regrown ?_ _ _) | (with_reducible refine Gr.setCell ?_ (by first | omega | (simp; omega) | simp) _) | (with_reducible refine Gr.trans ?_ (by with_reducible assumption)))⟩
  · have h1 := Ts.chkS_no hk
    have hH : Ts.hear o d s c slot t = Ts.no 1 := by unfold Ts.hear; rw [if_neg hk]
    rw [hH]
    clear hH hk
    go_enter Try.func13, Try.ntmps13
    go_wp2_with (first | (go_at_call 17; refine (tcheck_any _ _ _ _ _).mono ?_; rintro e w' ⟨rfl, hn⟩; (first | have hg' := Gr.trans hg hn | have hg' := Gr.trans (Gr.alloc hg _) hn | have hg' := Gr.trans (Gr.drewN hg _) hn | have hg' := Gr.trans (Gr.alloc (Gr.alloc hg _) _) hn | have hg' := hn); (try clear hr hf hr2 hf2 hz hz2); (try clear hg); have hg := hg'; clear hg'; have hr := hg.rules.1; have hf := hg.rules.2; have hr2 := hn.rules.1; have hf2 := hn.rules.2; have hz := hg.size; (try simp only [World.size_alloc] at hz); have hz2 := hn.size; (try simp only [World.size_alloc] at hz2); (try clear hy1); (try clear hy2); (try clear hy3); (try have hy1 : w.heap.size < w'.heap.size := by omega); (try have hy2 : w.heap.size + 1 < w'.heap.size := by omega); (try have hy3 : w.heap.size + 1 + 1 < w'.heap.size := by omega); clear hn; (try clear r0 f0); obtain ⟨r0, f0⟩ := st_cells hg))
    refine bodyPost_ret (v := .tuple #[.agg #[.int .i64 0, .int .i64 0, .int .i64 0, .int .i64 0], .int .i64 1]) (by simp [results, Try.results13, go_sem, r0]) rfl ⟨rfl, by repeat (first | (with_reducible exact Gr.refl _) | (with_reducible assumption) | (with_reducible refine Gr.alloc ?_ _) | (with_reducible refine Gr.drewN ?_ _) | (with_reducible refine Gr.drew ?_) | (with_reducible refine Gr.grown ?_ _ _) | (with_reducible refine Gr.regrown ?_ _ _) | (with_reducible refine Gr.setCell ?_ (by first | omega | (simp; omega) | simp) _) | (with_reducible refine Gr.trans ?_ (by with_reducible assumption)))⟩

set_option maxHeartbeats 1000000 in
theorem acked_any (o d s c slot n : Int) (w : World) :
    Calls Try.prog 15 #[.agg #[.int .i64 o, .int .i64 d, .int .i64 s, .int .i64 c], .int .i64 slot, .int .i64 n] w fun e w' => e = .returned (.tuple #[.agg #[.int .i64 (Ts.ack o d s c slot n).o, .int .i64 (Ts.ack o d s c slot n).d, .int .i64 (Ts.ack o d s c slot n).s, .int .i64 (Ts.ack o d s c slot n).c], .int .i64 (Ts.ack o d s c slot n).e]) ∧ Gr w w' := by
  by_cases hk : Ts.okS o d s c
  · have h1 := Ts.chkS_ok hk
    have hc0 := hk.2.2.1
    have hc1 := hk.2.2.2.1
    by_cases hm : 0 ≤ slot ∧ slot ≤ 109951162
    · have hH : Ts.ack o d s c slot n = Ts.cor o d s c slot n := by unfold Ts.ack; rw [if_pos hk, if_pos hm]
      rw [hH]
      have b1 := bt hm
      generalize hq : Ts.cor o d s c slot n = q
      have HQ := Lib.hid hq
      clear hq hH hk
      go_enter Try.func15, Try.ntmps15
      go_wp2_with (first | (go_at_call 17; refine (tcheck_any _ _ _ _ _).mono ?_; rintro e w' ⟨rfl, hn⟩; (first | have hg' := Gr.trans hg hn | have hg' := Gr.trans (Gr.alloc hg _) hn | have hg' := Gr.trans (Gr.drewN hg _) hn | have hg' := Gr.trans (Gr.alloc (Gr.alloc hg _) _) hn | have hg' := hn); (try clear hr hf hr2 hf2 hz hz2); (try clear hg); have hg := hg'; clear hg'; have hr := hg.rules.1; have hf := hg.rules.2; have hr2 := hn.rules.1; have hf2 := hn.rules.2; have hz := hg.size; (try simp only [World.size_alloc] at hz); have hz2 := hn.size; (try simp only [World.size_alloc] at hz2); (try clear hy1); (try clear hy2); (try clear hy3); (try have hy1 : w.heap.size < w'.heap.size := by omega); (try have hy2 : w.heap.size + 1 < w'.heap.size := by omega); (try have hy3 : w.heap.size + 1 + 1 < w'.heap.size := by omega); clear hn; (try clear r0 f0); obtain ⟨r0, f0⟩ := st_cells hg) | (go_at_call 42; refine (isSlot_any _ _).mono ?_; rintro e w' ⟨rfl, rfl⟩) | (go_at_call 48; refine (correct_any _ _ _ _ _ _ hc0 hc1 _).mono ?_; rw [HQ.out]; rintro e w' ⟨rfl, hn⟩; (first | have hg' := Gr.trans hg hn | have hg' := Gr.trans (Gr.alloc hg _) hn | have hg' := Gr.trans (Gr.drewN hg _) hn | have hg' := Gr.trans (Gr.alloc (Gr.alloc hg _) _) hn | have hg' := hn); (try clear hr hf hr2 hf2 hz hz2); (try clear hg); have hg := hg'; clear hg'; have hr := hg.rules.1; have hf := hg.rules.2; have hr2 := hn.rules.1; have hf2 := hn.rules.2; have hz := hg.size; (try simp only [World.size_alloc] at hz); have hz2 := hn.size; (try simp only [World.size_alloc] at hz2); (try clear hy1); (try clear hy2); (try clear hy3); (try have hy1 : w.heap.size < w'.heap.size := by omega); (try have hy2 : w.heap.size + 1 < w'.heap.size := by omega); (try have hy3 : w.heap.size + 1 + 1 < w'.heap.size := by omega); clear hn; (try clear r0 f0); obtain ⟨r0, f0⟩ := st_cells hg))
      refine bodyPost_ret (v := .tuple #[.agg #[.int .i64 (q).o, .int .i64 (q).d, .int .i64 (q).s, .int .i64 (q).c], .int .i64 (q).e]) (by simp [results, Try.results15, go_sem, r0]) rfl ⟨rfl, by repeat (first | (with_reducible exact Gr.refl _) | (with_reducible assumption) | (with_reducible refine Gr.alloc ?_ _) | (with_reducible refine Gr.drewN ?_ _) | (with_reducible refine Gr.drew ?_) | (with_reducible refine Gr.grown ?_ _ _) | (with_reducible refine Gr.regrown ?_ _ _) | (with_reducible refine Gr.setCell ?_ (by first | omega | (simp; omega) | simp) _) | (with_reducible refine Gr.trans ?_ (by with_reducible assumption)))⟩
    · have hH : Ts.ack o d s c slot n = Ts.no 2 := by unfold Ts.ack; rw [if_pos hk, if_neg hm]
      rw [hH]
      have b1 := bf hm
      clear hH hk hm
      go_enter Try.func15, Try.ntmps15
      go_wp2_with (first | (go_at_call 17; refine (tcheck_any _ _ _ _ _).mono ?_; rintro e w' ⟨rfl, hn⟩; (first | have hg' := Gr.trans hg hn | have hg' := Gr.trans (Gr.alloc hg _) hn | have hg' := Gr.trans (Gr.drewN hg _) hn | have hg' := Gr.trans (Gr.alloc (Gr.alloc hg _) _) hn | have hg' := hn); (try clear hr hf hr2 hf2 hz hz2); (try clear hg); have hg := hg'; clear hg'; have hr := hg.rules.1; have hf := hg.rules.2; have hr2 := hn.rules.1; have hf2 := hn.rules.2; have hz := hg.size; (try simp only [World.size_alloc] at hz); have hz2 := hn.size; (try simp only [World.size_alloc] at hz2); (try clear hy1); (try clear hy2); (try clear hy3); (try have hy1 : w.heap.size < w'.heap.size := by omega); (try have hy2 : w.heap.size + 1 < w'.heap.size := by omega); (try have hy3 : w.heap.size + 1 + 1 < w'.heap.size := by omega); clear hn; (try clear r0 f0); obtain ⟨r0, f0⟩ := st_cells hg) | (go_at_call 42; refine (isSlot_any _ _).mono ?_; rintro e w' ⟨rfl, rfl⟩))
      refine bodyPost_ret (v := .tuple #[.agg #[.int .i64 0, .int .i64 0, .int .i64 0, .int .i64 0], .int .i64 2]) (by simp [results, Try.results15, go_sem, r0]) rfl ⟨rfl, by repeat (first | (with_reducible exact Gr.refl _) | (with_reducible assumption) | (with_reducible refine Gr.alloc ?_ _) | (with_reducible refine Gr.drewN ?_ _) | (with_reducible refine Gr.drew ?_) | (with_reducible refine Gr.grown ?_ _ _) | (with_reducible refine Gr.regrown ?_ _ _) | (with_reducible refine Gr.setCell ?_ (by first | omega | (simp; omega) | simp) _) | (with_reducible refine Gr.trans ?_ (by with_reducible assumption)))⟩
  · have h1 := Ts.chkS_no hk
    have hH : Ts.ack o d s c slot n = Ts.no 1 := by unfold Ts.ack; rw [if_neg hk]
    rw [hH]
    clear hH hk
    go_enter Try.func15, Try.ntmps15
    go_wp2_with (first | (go_at_call 17; refine (tcheck_any _ _ _ _ _).mono ?_; rintro e w' ⟨rfl, hn⟩; (first | have hg' := Gr.trans hg hn | have hg' := Gr.trans (Gr.alloc hg _) hn | have hg' := Gr.trans (Gr.drewN hg _) hn | have hg' := Gr.trans (Gr.alloc (Gr.alloc hg _) _) hn | have hg' := hn); (try clear hr hf hr2 hf2 hz hz2); (try clear hg); have hg := hg'; clear hg'; have hr := hg.rules.1; have hf := hg.rules.2; have hr2 := hn.rules.1; have hf2 := hn.rules.2; have hz := hg.size; (try simp only [World.size_alloc] at hz); have hz2 := hn.size; (try simp only [World.size_alloc] at hz2); (try clear hy1); (try clear hy2); (try clear hy3); (try have hy1 : w.heap.size < w'.heap.size := by omega); (try have hy2 : w.heap.size + 1 < w'.heap.size := by omega); (try have hy3 : w.heap.size + 1 + 1 < w'.heap.size := by omega); clear hn; (try clear r0 f0); obtain ⟨r0, f0⟩ := st_cells hg))
    refine bodyPost_ret (v := .tuple #[.agg #[.int .i64 0, .int .i64 0, .int .i64 0, .int .i64 0], .int .i64 1]) (by simp [results, Try.results15, go_sem, r0]) rfl ⟨rfl, by repeat (first | (with_reducible exact Gr.refl _) | (with_reducible assumption) | (with_reducible refine Gr.alloc ?_ _) | (with_reducible refine Gr.drewN ?_ _) | (with_reducible refine Gr.drew ?_) | (with_reducible refine Gr.grown ?_ _ _) | (with_reducible refine Gr.regrown ?_ _ _) | (with_reducible refine Gr.setCell ?_ (by first | omega | (simp; omega) | simp) _) | (with_reducible refine Gr.trans ?_ (by with_reducible assumption)))⟩
end Go.Proofs.Ytjiaemmhjkhdhaa

/- The contracts of timesync's isAcked and of the tests of Run and Spread. -/
import Derived.Test.YtjiaemmhjkhdhaaRunA
namespace Go.Proofs.Ytjiaemmhjkhdhaa
open Go.RowKit Go.Sort
set_option linter.unusedVariables false

/-- the cell of a result that came in zero -/
theorem res_cells {w W : World} {cs : Array Value} {t t' : Nat} (hg : Gr ((w.alloc (Obj.cells cs t)).alloc (Obj.cells #[Value.int IntKind.i64 0, Value.int IntKind.i64 0, Value.int IntKind.i64 0, Value.int IntKind.i64 0] t')) W) :
    (∀ i, i < 4 → W.cell? ⟨w.heap.size + 1, i, none⟩ = some (.int .i64 0)) ∧ (∀ i, W.frozen? ⟨w.heap.size + 1, i, none⟩ = false) ∧ w.heap.size + 1 < W.heap.size ∧ Aside (Gr w W) := by
  refine ⟨fun i hi => ?_, fun i => ?_, ?_, Gr.trans (Gr.alloc (Gr.alloc (Gr.refl w) _) _) hg⟩
  · rw [hg.cell (by simp)]
    have : i = 0 ∨ i = 1 ∨ i = 2 ∨ i = 3 := by omega
    rcases this with rfl | rfl | rfl | rfl <;> go_simp
  · rw [hg.frozen (by simp)]; go_simp
  · have := hg.size; simp at this; omega

set_option maxHeartbeats 2000000 in
theorem isAcked_any (x : Sy) (po pd t : Int) (w : World) :
    Calls Try.prog 56 #[.agg #[.int .i64 x.o, .int .i64 x.d, .int .i64 x.s, .int .i64 x.c, .int .i64 po, .int .i64 pd, .int .i64 t]] w fun e w' => e = .returned (stV (Ru.ak x po pd t)) ∧ Gr w w' := by
  by_cases he : Ck.inE x.o x.d t 2120 = 0
  · by_cases hm : Ts.meaE po pd t (Ck.inN x.o x.d t 2120) = 0
    · have H : Hid (Ru.ak x po pd t = Ts.ack x.o x.d x.s x.c t (Ts.meaN po pd t (Ck.inN x.o x.d t 2120))) := by show _ = _; unfold Ru.ak; rw [if_pos he, if_pos hm]
      rw [H.out]
      clear H
      generalize hq : Ts.ack x.o x.d x.s x.c t (Ts.meaN po pd t (Ck.inN x.o x.d t 2120)) = q
      have HQ := Lib.hid hq
      clear hq
      go_enter Try.func56, Try.ntmps56
      go_wp2_with fail
      refine (send_any _ _ _ _).mono ?_
      rintro e w1 ⟨rfl, g1⟩
      have c4 : w1.cell? ⟨w.heap.size, 4, none⟩ = some (.int .i64 po) := Eq.trans (Gr.cell g1 (by first | (simp; done) | (simp; omega) | omega)) (by go_simp); have c5 : w1.cell? ⟨w.heap.size, 5, none⟩ = some (.int .i64 pd) := Eq.trans (Gr.cell g1 (by first | (simp; done) | (simp; omega) | omega)) (by go_simp); have c6 : w1.cell? ⟨w.heap.size, 6, none⟩ = some (.int .i64 t) := Eq.trans (Gr.cell g1 (by first | (simp; done) | (simp; omega) | omega)) (by go_simp)
      have y1 : w.heap.size + 1 < w1.heap.size := by have := g1.size; simp at this; omega
      go_wp2_with fail
      refine (measure_any _ _ _ _ _).mono ?_
      rintro e w2 ⟨rfl, g2⟩
      have G2 := g1.trans g2
      have d0 : w2.cell? ⟨w.heap.size, 0, none⟩ = some (.int .i64 x.o) := Eq.trans (Gr.cell G2 (by first | (simp; done) | (simp; omega) | omega)) (by go_simp); have d1 : w2.cell? ⟨w.heap.size, 1, none⟩ = some (.int .i64 x.d) := Eq.trans (Gr.cell G2 (by first | (simp; done) | (simp; omega) | omega)) (by go_simp); have d2 : w2.cell? ⟨w.heap.size, 2, none⟩ = some (.int .i64 x.s) := Eq.trans (Gr.cell G2 (by first | (simp; done) | (simp; omega) | omega)) (by go_simp); have d3 : w2.cell? ⟨w.heap.size, 3, none⟩ = some (.int .i64 x.c) := Eq.trans (Gr.cell G2 (by first | (simp; done) | (simp; omega) | omega)) (by go_simp); have d6 : w2.cell? ⟨w.heap.size, 6, none⟩ = some (.int .i64 t) := Eq.trans (Gr.cell G2 (by first | (simp; done) | (simp; omega) | omega)) (by go_simp)
      have y2 : w.heap.size + 1 < w2.heap.size := by have := g2.size; omega
      clear c4 c5 c6
      go_wp2_with fail
      refine (acked_any _ _ _ _ _ _ _).mono ?_
      rw [HQ.out]
      rintro e w3 ⟨rfl, g3⟩
      obtain ⟨r0, f0, y3, GG⟩ := res_cells (G2.trans g3)
      clear d0 d1 d2 d3 d6 g1 g2 g3 G2
      go_wp2_with fail
      refine bodyPost_ret (v := stV q) (by simp [results, Try.results56, go_sem, r0]) rfl ⟨rfl, ?_⟩
      exact ((((GG.out.setCell (by simp) _).setCell (by simp) _).setCell (by simp) _).setCell (by simp) _)
    · have H : Hid (Ru.ak x po pd t = Ts.no (Ts.meaE po pd t (Ck.inN x.o x.d t 2120))) := by show _ = _; unfold Ru.ak; rw [if_pos he, if_neg hm]
      rw [H.out]
      clear H
      have hb : (Ts.meaE po pd t (Ck.inN x.o x.d t 2120) != 0) = true := by simpa using hm
      clear hm
      go_enter Try.func56, Try.ntmps56
      go_wp2_with fail
      refine (send_any _ _ _ _).mono ?_
      rintro e w1 ⟨rfl, g1⟩
      have c4 : w1.cell? ⟨w.heap.size, 4, none⟩ = some (.int .i64 po) := Eq.trans (Gr.cell g1 (by first | (simp; done) | (simp; omega) | omega)) (by go_simp); have c5 : w1.cell? ⟨w.heap.size, 5, none⟩ = some (.int .i64 pd) := Eq.trans (Gr.cell g1 (by first | (simp; done) | (simp; omega) | omega)) (by go_simp); have c6 : w1.cell? ⟨w.heap.size, 6, none⟩ = some (.int .i64 t) := Eq.trans (Gr.cell g1 (by first | (simp; done) | (simp; omega) | omega)) (by go_simp)
      have y1 : w.heap.size + 1 < w1.heap.size := by have := g1.size; simp at this; omega
      go_wp2_with fail
      refine (measure_any _ _ _ _ _).mono ?_
      rintro e w2 ⟨rfl, g2⟩
      obtain ⟨r0, f0, y3, GG⟩ := res_cells (g1.trans g2)
      clear c4 c5 c6 g1 g2
      go_wp2_with fail
      refine bodyPost_ret (v := stV (Ts.no (Ts.meaE po pd t (Ck.inN x.o x.d t 2120)))) (by simp [results, Try.results56, go_sem, r0, Ts.no]) rfl ⟨rfl, ?_⟩
      exact ((((GG.out.setCell (by simp) _).setCell (by simp) _).setCell (by simp) _).setCell (by simp) _)
  · have H : Hid (Ru.ak x po pd t = Ts.no (Ck.inE x.o x.d t 2120)) := by show _ = _; unfold Ru.ak; rw [if_neg he]
    rw [H.out]
    clear H
    have hb : (Ck.inE x.o x.d t 2120 != 0) = true := by simpa using he
    clear he
    go_enter Try.func56, Try.ntmps56
    go_wp2_with fail
    refine (send_any _ _ _ _).mono ?_
    rintro e w2 ⟨rfl, G2⟩
    obtain ⟨r0, f0, y3, GG⟩ := res_cells G2
    go_wp2_with fail
    refine bodyPost_ret (v := stV (Ts.no (Ck.inE x.o x.d t 2120))) (by simp [results, Try.results56, go_sem, r0, Ts.no]) rfl ⟨rfl, ?_⟩
    exact ((((GG.out.setCell (by simp) _).setCell (by simp) _).setCell (by simp) _).setCell (by simp) _)

/-- is a state no good one -/
def badS (x : Sy) : Bool := Ru.chk x != 0
theorem okL_any (l : List Sy) : l.any badS = !decide (Ru.okL l) := by
  rw [Bool.eq_iff_iff, List.any_eq_true]
  simp only [Bool.not_eq_true', decide_eq_false_iff_not]
  constructor
  · rintro ⟨x, hx, hb⟩ h
    have := Ts.chkS_ok (h x hx)
    unfold badS Ru.chk at hb
    rw [this] at hb
    exact absurd hb (by decide)
  · intro h
    apply Classical.byContradiction
    intro hn
    apply h
    intro x hx
    apply Classical.byContradiction
    intro hx2
    refine hn ⟨x, hx, ?_⟩
    unfold badS Ru.chk
    rw [Ts.chkS_no hx2]
    rfl

set_option maxHeartbeats 400000 in
theorem run1_any (x : Sy) (w : World) :
    Calls Try.prog 54 #[.agg #[.int .i64 x.o, .int .i64 x.d, .int .i64 x.s, .int .i64 x.c]] w fun e w' => e = .returned (.bool (badS x)) ∧ Gr w w' := by
  go_enter Try.func54, Try.ntmps54
  go_wp2_with (first | (go_at_call 17; refine (tcheck_any _ _ _ _ _).mono ?_; rintro e w' ⟨rfl, hn⟩; (first | have hg' := Gr.trans hg hn | have hg' := Gr.trans (Gr.alloc hg _) hn | have hg' := Gr.trans (Gr.drewN hg _) hn | have hg' := Gr.trans (Gr.alloc (Gr.alloc hg _) _) hn | have hg' := hn); (try clear hr hf hr2 hf2 hz hz2); (try clear hg); have hg := hg'; clear hg'; have hr := hg.rules.1; have hf := hg.rules.2; have hr2 := hn.rules.1; have hf2 := hn.rules.2; have hz := hg.size; (try simp only [World.size_alloc] at hz); have hz2 := hn.size; (try simp only [World.size_alloc] at hz2); (try clear hy1); (try clear hy2); (try clear hy3); (try have hy1 : w.heap.size < w'.heap.size := by omega); (try have hy2 : w.heap.size + 1 < w'.heap.size := by omega); (try have hy3 : w.heap.size + 1 + 1 < w'.heap.size := by omega); clear hn))
  go_ret
  exact ⟨rfl, by repeat (first | (with_reducible exact Gr.refl _) | (with_reducible assumption) | (with_reducible refine Gr.alloc ?_ _) | (with_reducible refine Gr.drewN ?_ _) | (with_reducible refine Gr.drew ?_) | (with_reducible refine Gr.grown ?_ _ _) | (with_reducible refine Gr.regrown ?_ _ _) | (with_reducible refine Gr.setCell ?_ (by first | omega | (simp; omega) | simp) _) | (with_reducible refine Gr.trans ?_ (by with_reducible assumption)))⟩
set_option maxHeartbeats 400000 in
theorem spread1_any (x : Sy) (w : World) :
    Calls Try.prog 59 #[.agg #[.int .i64 x.o, .int .i64 x.d, .int .i64 x.s, .int .i64 x.c]] w fun e w' => e = .returned (.bool (badS x)) ∧ Gr w w' := by
  go_enter Try.func59, Try.ntmps59
  go_wp2_with (first | (go_at_call 17; refine (tcheck_any _ _ _ _ _).mono ?_; rintro e w' ⟨rfl, hn⟩; (first | have hg' := Gr.trans hg hn | have hg' := Gr.trans (Gr.alloc hg _) hn | have hg' := Gr.trans (Gr.drewN hg _) hn | have hg' := Gr.trans (Gr.alloc (Gr.alloc hg _) _) hn | have hg' := hn); (try clear hr hf hr2 hf2 hz hz2); (try clear hg); have hg := hg'; clear hg'; have hr := hg.rules.1; have hf := hg.rules.2; have hr2 := hn.rules.1; have hf2 := hn.rules.2; have hz := hg.size; (try simp only [World.size_alloc] at hz); have hz2 := hn.size; (try simp only [World.size_alloc] at hz2); (try clear hy1); (try clear hy2); (try clear hy3); (try have hy1 : w.heap.size < w'.heap.size := by omega); (try have hy2 : w.heap.size + 1 < w'.heap.size := by omega); (try have hy3 : w.heap.size + 1 + 1 < w'.heap.size := by omega); clear hn))
  go_ret
  exact ⟨rfl, by repeat (first | (with_reducible exact Gr.refl _) | (with_reducible assumption) | (with_reducible refine Gr.alloc ?_ _) | (with_reducible refine Gr.drewN ?_ _) | (with_reducible refine Gr.drew ?_) | (with_reducible refine Gr.grown ?_ _ _) | (with_reducible refine Gr.regrown ?_ _ _) | (with_reducible refine Gr.setCell ?_ (by first | omega | (simp; omega) | simp) _) | (with_reducible refine Gr.trans ?_ (by with_reducible assumption)))⟩
end Go.Proofs.Ytjiaemmhjkhdhaa

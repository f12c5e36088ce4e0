/- The contracts of timesync's hears and isAcked, of Run's test, and of slices.ContainsFunc over it. -/
import Derived.Test.YtjiaemmhjkhdhaaTmsB
import Derived.Test.YtjiaemmhjkhdhaaRunRow
import Derived.Test.YtjiaemmhjkhdhaaRet
import Derived.Test.YtjiaemmhjkhdhaaClkC
import Derived.Deep.LoopGhost
namespace Go.Proofs.Ytjiaemmhjkhdhaa
open Go.RowKit Go.Sort
set_option linter.unusedVariables false

/-- a state and an error -/
abbrev stV (q : Ts.St) : Value := .tuple #[.agg #[.int .i64 q.o, .int .i64 q.d, .int .i64 q.s, .int .i64 q.c], .int .i64 q.e]

set_option maxHeartbeats 1000000 in
theorem hears_any (x : Sy) (po pd t : Int) (w : World) :
    Calls Try.prog 55 #[.agg #[.int .i64 x.o, .int .i64 x.d, .int .i64 x.s, .int .i64 x.c, .int .i64 po, .int .i64 pd, .int .i64 t]] w fun e w' => e = .returned (stV (Ru.hr x po pd t)) ∧ Gr w w' := by
  by_cases he : Ck.inE po pd t 2120 = 0
  · have H : Hid (Ru.hr x po pd t = Ts.hear x.o x.d x.s x.c t (Ck.inN po pd t 2120)) := if_pos he
    rw [H.out]
    clear H
    generalize hq : Ts.hear x.o x.d x.s x.c t (Ck.inN po pd t 2120) = q
    have HQ := Lib.hid hq
    clear hq
    go_enter Try.func55, Try.ntmps55
    go_wp2_with fail
    refine (send_any _ _ _ _).mono ?_
    rintro e w1 ⟨rfl, g1⟩
    have c0 : w1.cell? ⟨w.heap.size, 0, none⟩ = some (.int .i64 x.o) := Eq.trans (Gr.cell g1 (by first | (simp; done) | (simp; omega) | omega)) (by go_simp); have c1 : w1.cell? ⟨w.heap.size, 1, none⟩ = some (.int .i64 x.d) := Eq.trans (Gr.cell g1 (by first | (simp; done) | (simp; omega) | omega)) (by go_simp); have c2 : w1.cell? ⟨w.heap.size, 2, none⟩ = some (.int .i64 x.s) := Eq.trans (Gr.cell g1 (by first | (simp; done) | (simp; omega) | omega)) (by go_simp); have c3 : w1.cell? ⟨w.heap.size, 3, none⟩ = some (.int .i64 x.c) := Eq.trans (Gr.cell g1 (by first | (simp; done) | (simp; omega) | omega)) (by go_simp); have c6 : w1.cell? ⟨w.heap.size, 6, none⟩ = some (.int .i64 t) := Eq.trans (Gr.cell g1 (by first | (simp; done) | (simp; omega) | omega)) (by go_simp)
    have y1 : w.heap.size + 1 < w1.heap.size := by have := g1.size; simp at this; omega
    go_wp2_with fail
    refine (hear_any _ _ _ _ _ _ _).mono ?_
    rw [HQ.out]
    rintro e w2 ⟨rfl, g2⟩
    have G2 := g1.trans g2
    have r0 : ∀ i, i < 4 → w2.cell? ⟨w.heap.size + 1, i, none⟩ = some (.int .i64 0) := fun i hi => by
      rw [G2.cell (by simp)]
      have : i = 0 ∨ i = 1 ∨ i = 2 ∨ i = 3 := by omega
      rcases this with rfl | rfl | rfl | rfl <;> go_simp
    have f0 : ∀ i, w2.frozen? ⟨w.heap.size + 1, i, none⟩ = false := fun i => by rw [G2.frozen (by simp)]; go_simp
    have y2 : w.heap.size + 1 < w2.heap.size := by have := g2.size; omega
    have GG : Aside (Gr w w2) := Gr.trans (Gr.alloc (Gr.alloc (Gr.refl w) _) _) G2
    clear c0 c1 c2 c3 c6 g1 g2
    go_wp2_with fail
    refine bodyPost_ret (v := stV q) (by simp [results, Try.results55, go_sem, r0]) rfl ⟨rfl, ?_⟩
    exact ((((GG.out.setCell (by simp) _).setCell (by simp) _).setCell (by simp) _).setCell (by simp) _)
  · have H : Hid (Ru.hr x po pd t = Ts.no (Ck.inE po pd t 2120)) := if_neg he
    rw [H.out]
    clear H
    have hb : (Ck.inE po pd t 2120 != 0) = true := by simpa using he
    clear he
    go_enter Try.func55, Try.ntmps55
    go_wp2_with fail
    refine (send_any _ _ _ _).mono ?_
    rintro e w2 ⟨rfl, G2⟩
    have r0 : ∀ i, i < 4 → w2.cell? ⟨w.heap.size + 1, i, none⟩ = some (.int .i64 0) := fun i hi => by
      rw [G2.cell (by simp)]
      have : i = 0 ∨ i = 1 ∨ i = 2 ∨ i = 3 := by omega
      rcases this with rfl | rfl | rfl | rfl <;> go_simp
    have f0 : ∀ i, w2.frozen? ⟨w.heap.size + 1, i, none⟩ = false := fun i => by rw [G2.frozen (by simp)]; go_simp
    have y2 : w.heap.size + 1 < w2.heap.size := by have := G2.size; simp at this; omega
    have GG : Aside (Gr w w2) := Gr.trans (Gr.alloc (Gr.alloc (Gr.refl w) _) _) G2
    go_wp2_with fail
    refine bodyPost_ret (v := stV (Ts.no (Ck.inE po pd t 2120))) (by simp [results, Try.results55, go_sem, r0, Ts.no]) rfl ⟨rfl, ?_⟩
    exact ((((GG.out.setCell (by simp) _).setCell (by simp) _).setCell (by simp) _).setCell (by simp) _)
end Go.Proofs.Ytjiaemmhjkhdhaa

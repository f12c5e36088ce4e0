/- The walk of ClockAdjusts: the Go text returns true. -/
import Derived.Test.YtipjcejhenlpoaaClkAwake
namespace Go.Proofs.Ytipjcejhenlpoaa.clockAdjusts
open Go.RowKit Go.Sort
set_option linter.unusedVariables false

set_option maxHeartbeats 1000000 in
theorem walk (oa da ob db n t : Int) (woa : (Lit.int .i64 oa).wf = true) (wda : (Lit.int .i64 da).wf = true) (wob : (Lit.int .i64 ob).wf = true) (wdb : (Lit.int .i64 db).wf = true) (wn : (Lit.int .i64 n).wf = true) (wt : (Lit.int .i64 t).wf = true) (w : World) :
    Calls Try.prog 9 #[.agg #[.int .i64 oa, .int .i64 da], .agg #[.int .i64 ob, .int .i64 db], .agg #[.int .i64 n, .int .i64 t]] w fun e w' => e = .returned (.bool true) ∧ Gr w w' := by
  go_enter Try.func9, Try.ntmps9
  go_wp2_with fail; refine (awake_any _).mono ?_; rintro e w1 ⟨rfl, g1⟩
  have hz1 := g1.size
  simp only [World.size_alloc] at hz1
  have a0 : w1.cell? ⟨w.heap.size, 0, none⟩ = some (.int .i64 oa) := Eq.trans (Gr.cell g1 (by first | (simp; done) | (simp; omega) | omega)) (by go_simp); have a1 : w1.cell? ⟨w.heap.size, 1, none⟩ = some (.int .i64 da) := Eq.trans (Gr.cell g1 (by first | (simp; done) | (simp; omega) | omega)) (by go_simp); have b0 : w1.cell? ⟨w.heap.size + 1, 0, none⟩ = some (.int .i64 ob) := Eq.trans (Gr.cell g1 (by first | (simp; done) | (simp; omega) | omega)) (by go_simp); have b1 : w1.cell? ⟨w.heap.size + 1, 1, none⟩ = some (.int .i64 db) := Eq.trans (Gr.cell g1 (by first | (simp; done) | (simp; omega) | omega)) (by go_simp); have n0 : w1.cell? ⟨w.heap.size + 1 + 1, 0, none⟩ = some (.int .i64 n) := Eq.trans (Gr.cell g1 (by first | (simp; done) | (simp; omega) | omega)) (by go_simp); have t0 : w1.cell? ⟨w.heap.size + 1 + 1, 1, none⟩ = some (.int .i64 t) := Eq.trans (Gr.cell g1 (by first | (simp; done) | (simp; omega) | omega)) (by go_simp)
  go_wp2_with fail; refine (adjust_any _ _ _ _).mono ?_; rintro e w2 ⟨rfl, g2⟩
  have hz2 := g2.size
  have a2 : w2.cell? ⟨w.heap.size, 0, none⟩ = some (.int .i64 oa) := Eq.trans (Gr.cell g2 (by first | (simp; done) | (simp; omega) | omega)) (by go_simp); have a3 : w2.cell? ⟨w.heap.size, 1, none⟩ = some (.int .i64 da) := Eq.trans (Gr.cell g2 (by first | (simp; done) | (simp; omega) | omega)) (by go_simp); have b2 : w2.cell? ⟨w.heap.size + 1, 0, none⟩ = some (.int .i64 ob) := Eq.trans (Gr.cell g2 (by first | (simp; done) | (simp; omega) | omega)) (by go_simp); have b3 : w2.cell? ⟨w.heap.size + 1, 1, none⟩ = some (.int .i64 db) := Eq.trans (Gr.cell g2 (by first | (simp; done) | (simp; omega) | omega)) (by go_simp); have n2 : w2.cell? ⟨w.heap.size + 1 + 1, 0, none⟩ = some (.int .i64 n) := Eq.trans (Gr.cell g2 (by first | (simp; done) | (simp; omega) | omega)) (by go_simp); have t2 : w2.cell? ⟨w.heap.size + 1 + 1, 1, none⟩ = some (.int .i64 t) := Eq.trans (Gr.cell g2 (by first | (simp; done) | (simp; omega) | omega)) (by go_simp)
  clear a0 a1 b0 b1 n0 t0
  have hy1 : w.heap.size < w2.heap.size := by omega
  have hy2 : w.heap.size + 1 < w2.heap.size := by omega
  have hy3 : w.heap.size + 1 + 1 < w2.heap.size := by omega
  go_wp2_with fail; refine (radjust_any _ _ _ _).mono ?_; rintro e w3 ⟨rfl, g3⟩
  have hz3 := g3.size
  simp only [World.size_alloc] at hz3
  have a0 : w3.cell? ⟨w.heap.size, 0, none⟩ = some (.int .i64 oa) := Eq.trans (Gr.cell g3 (by first | (simp; done) | (simp; omega) | omega)) (by go_simp); have a1 : w3.cell? ⟨w.heap.size, 1, none⟩ = some (.int .i64 da) := Eq.trans (Gr.cell g3 (by first | (simp; done) | (simp; omega) | omega)) (by go_simp); have b0 : w3.cell? ⟨w.heap.size + 1, 0, none⟩ = some (.int .i64 ob) := Eq.trans (Gr.cell g3 (by first | (simp; done) | (simp; omega) | omega)) (by go_simp); have b1 : w3.cell? ⟨w.heap.size + 1, 1, none⟩ = some (.int .i64 db) := Eq.trans (Gr.cell g3 (by first | (simp; done) | (simp; omega) | omega)) (by go_simp); have n0 : w3.cell? ⟨w.heap.size + 1 + 1, 0, none⟩ = some (.int .i64 n) := Eq.trans (Gr.cell g3 (by first | (simp; done) | (simp; omega) | omega)) (by go_simp); have t0 : w3.cell? ⟨w.heap.size + 1 + 1, 1, none⟩ = some (.int .i64 t) := Eq.trans (Gr.cell g3 (by first | (simp; done) | (simp; omega) | omega)) (by go_simp); have c0 : w3.cell? ⟨w2.heap.size, 0, none⟩ = some (.int .i64 (Ck.adjO oa da n)) := Eq.trans (Gr.cell g3 (by first | (simp; done) | (simp; omega) | omega)) (by go_simp); have c1 : w3.cell? ⟨w2.heap.size, 1, none⟩ = some (.int .i64 (Ck.adjD oa da n)) := Eq.trans (Gr.cell g3 (by first | (simp; done) | (simp; omega) | omega)) (by go_simp)
  clear a2 a3 b2 b3 n2 t2
  have hx1 : w.heap.size < w3.heap.size := by omega
  have hx2 : w.heap.size + 1 < w3.heap.size := by omega
  have hx3 : w.heap.size + 1 + 1 < w3.heap.size := by omega
  have hx4 : w2.heap.size < w3.heap.size := by omega
  go_wp2_with fail; refine (apart_any _ _ _ _ _ _).mono ?_; rintro e w4 ⟨rfl, g4⟩
  have hz4 := g4.size
  simp only [World.size_alloc] at hz4
  have a2 : w4.cell? ⟨w.heap.size, 0, none⟩ = some (.int .i64 oa) := Eq.trans (Gr.cell g4 (by first | (simp; done) | (simp; omega) | omega)) (by go_simp); have a3 : w4.cell? ⟨w.heap.size, 1, none⟩ = some (.int .i64 da) := Eq.trans (Gr.cell g4 (by first | (simp; done) | (simp; omega) | omega)) (by go_simp); have b2 : w4.cell? ⟨w.heap.size + 1, 0, none⟩ = some (.int .i64 ob) := Eq.trans (Gr.cell g4 (by first | (simp; done) | (simp; omega) | omega)) (by go_simp); have b3 : w4.cell? ⟨w.heap.size + 1, 1, none⟩ = some (.int .i64 db) := Eq.trans (Gr.cell g4 (by first | (simp; done) | (simp; omega) | omega)) (by go_simp); have t2 : w4.cell? ⟨w.heap.size + 1 + 1, 1, none⟩ = some (.int .i64 t) := Eq.trans (Gr.cell g4 (by first | (simp; done) | (simp; omega) | omega)) (by go_simp); have c2 : w4.cell? ⟨w2.heap.size, 0, none⟩ = some (.int .i64 (Ck.adjO oa da n)) := Eq.trans (Gr.cell g4 (by first | (simp; done) | (simp; omega) | omega)) (by go_simp); have c3 : w4.cell? ⟨w2.heap.size, 1, none⟩ = some (.int .i64 (Ck.adjD oa da n)) := Eq.trans (Gr.cell g4 (by first | (simp; done) | (simp; omega) | omega)) (by go_simp); have d2 : w4.cell? ⟨w3.heap.size, 0, none⟩ = some (.int .i64 (Ck.adjO oa da n)) := Eq.trans (Gr.cell g4 (by first | (simp; done) | (simp; omega) | omega)) (by go_simp); have d3 : w4.cell? ⟨w3.heap.size, 1, none⟩ = some (.int .i64 (Ck.adjD oa da n)) := Eq.trans (Gr.cell g4 (by first | (simp; done) | (simp; omega) | omega)) (by go_simp)
  clear a0 a1 b0 b1 n0 t0 c0 c1
  go_wp2_with fail; refine (rapart_any _ _ _ _ _ _).mono ?_; rintro e w5 ⟨rfl, g5⟩
  have c0 : w5.cell? ⟨w2.heap.size, 0, none⟩ = some (.int .i64 (Ck.adjO oa da n)) := Eq.trans (Gr.cell g5 (by first | (simp; done) | (simp; omega) | omega)) (by go_simp); have c1 : w5.cell? ⟨w2.heap.size, 1, none⟩ = some (.int .i64 (Ck.adjD oa da n)) := Eq.trans (Gr.cell g5 (by first | (simp; done) | (simp; omega) | omega)) (by go_simp); have d0 : w5.cell? ⟨w3.heap.size, 0, none⟩ = some (.int .i64 (Ck.adjO oa da n)) := Eq.trans (Gr.cell g5 (by first | (simp; done) | (simp; omega) | omega)) (by go_simp); have d1 : w5.cell? ⟨w3.heap.size, 1, none⟩ = some (.int .i64 (Ck.adjD oa da n)) := Eq.trans (Gr.cell g5 (by first | (simp; done) | (simp; omega) | omega)) (by go_simp)
  clear a2 a3 b2 b3 t2 c2 c3 d2 d3
  go_wp2
  go_ret
  exact ⟨rfl, by repeat (first | (with_reducible exact Gr.refl _) | (with_reducible assumption) | (with_reducible refine Gr.alloc ?_ _) | (with_reducible refine Gr.drewN ?_ _) | (with_reducible refine Gr.drew ?_) | (with_reducible refine Gr.grown ?_ _ _) | (with_reducible refine Gr.setCell ?_ (by first | omega | (simp; omega) | simp) _) | (with_reducible refine Gr.trans ?_ (by with_reducible assumption)))⟩
end Go.Proofs.Ytipjcejhenlpoaa.clockAdjusts

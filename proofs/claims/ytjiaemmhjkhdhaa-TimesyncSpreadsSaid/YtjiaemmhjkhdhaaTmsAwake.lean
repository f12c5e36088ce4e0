/- The law package's own example holds: awake returns true; the contract of size. No condition. -/
import Derived.Test.YtjiaemmhjkhdhaaR10B
import Derived.Test.YtjiaemmhjkhdhaaClkC
namespace Go.Proofs.Ytjiaemmhjkhdhaa
open Go.RowKit Go.Sort

def sz (n : Int) : Int := if n < 0 then -n else n
set_option maxHeartbeats 400000 in
theorem size_any (n : Int) (h : -9000000000000000000 ≤ n) (h' : n ≤ 9000000000000000000) (w : World) :
    Calls Try.prog 25 #[.int .i64 n] w fun e w' => e = .returned (.int .i64 (sz n)) ∧ w' = w := by
  go_enter Try.func25, Try.ntmps25
  go_wp2
  all_goals
    go_ret
    exact ⟨ret_int (by unfold sz; split <;> omega), rfl⟩

set_option maxHeartbeats 1000000 in
theorem awake_any (w : World) :
    Calls Try.prog 10 #[] w fun e w' => e = .returned (.bool true) ∧ Gr w w' := by
  have s1 : Ts.hear 40 0 (-1) 0 1 12120 = ⟨0, 0, 1, 1, 0⟩ := by decide
  have s2 : Ts.meaN 0 0 1 12080 = -40 := by decide
  have s3 : Ts.meaE 0 0 1 12080 = 0 := by decide
  have s4 : Ts.ack 40 0 (-1) 0 1 (-40) = ⟨0, 0, 1, 1, 0⟩ := by decide
  have s5 : Ts.syn 0 0 1 1 5 4 = true := by decide
  have s6 : Ts.syn 0 0 1 1 6 4 = false := by decide
  have s7 : Ts.syn 0 0 1 1 5 4 = true := s5
  go_enter Try.func10, Try.ntmps10
  go_wp2_with fail
  refine (hear_any _ _ _ _ _ _ _).mono ?_
  rw [s1]
  rintro e w1 ⟨rfl, g1⟩
  have z1 := g1.size
  simp only [World.size_alloc] at z1
  have q0 : w1.cell? ⟨w.heap.size, 0, none⟩ = some (.int .i64 40) := Eq.trans (Gr.cell g1 (by first | (simp; done) | (simp; omega) | omega)) (by go_simp); have q1 : w1.cell? ⟨w.heap.size, 1, none⟩ = some (.int .i64 0) := Eq.trans (Gr.cell g1 (by first | (simp; done) | (simp; omega) | omega)) (by go_simp); have q2 : w1.cell? ⟨w.heap.size, 2, none⟩ = some (.int .i64 (-1)) := Eq.trans (Gr.cell g1 (by first | (simp; done) | (simp; omega) | omega)) (by go_simp); have q3 : w1.cell? ⟨w.heap.size, 3, none⟩ = some (.int .i64 0) := Eq.trans (Gr.cell g1 (by first | (simp; done) | (simp; omega) | omega)) (by go_simp)
  have y1 : w.heap.size < w1.heap.size := by omega
  go_wp2_with fail
  refine (measure_any _ _ _ _ _).mono ?_
  rintro e w2 ⟨rfl, g2⟩
  have z2 := g2.size
  simp only [World.size_alloc] at z2
  have r0 : w2.cell? ⟨w.heap.size, 0, none⟩ = some (.int .i64 40) := Eq.trans (Gr.cell g2 (by first | (simp; done) | (simp; omega) | omega)) (by go_simp); have r1 : w2.cell? ⟨w.heap.size, 1, none⟩ = some (.int .i64 0) := Eq.trans (Gr.cell g2 (by first | (simp; done) | (simp; omega) | omega)) (by go_simp); have r2 : w2.cell? ⟨w.heap.size, 2, none⟩ = some (.int .i64 (-1)) := Eq.trans (Gr.cell g2 (by first | (simp; done) | (simp; omega) | omega)) (by go_simp); have r3 : w2.cell? ⟨w.heap.size, 3, none⟩ = some (.int .i64 0) := Eq.trans (Gr.cell g2 (by first | (simp; done) | (simp; omega) | omega)) (by go_simp); have a0 : w2.cell? ⟨w1.heap.size, 0, none⟩ = some (.int .i64 0) := Eq.trans (Gr.cell g2 (by first | (simp; done) | (simp; omega) | omega)) (by go_simp); have a1 : w2.cell? ⟨w1.heap.size, 1, none⟩ = some (.int .i64 0) := Eq.trans (Gr.cell g2 (by first | (simp; done) | (simp; omega) | omega)) (by go_simp); have a2 : w2.cell? ⟨w1.heap.size, 2, none⟩ = some (.int .i64 1) := Eq.trans (Gr.cell g2 (by first | (simp; done) | (simp; omega) | omega)) (by go_simp); have a3 : w2.cell? ⟨w1.heap.size, 3, none⟩ = some (.int .i64 1) := Eq.trans (Gr.cell g2 (by first | (simp; done) | (simp; omega) | omega)) (by go_simp)
  clear q0 q1 q2 q3
  have y2 : w.heap.size < w2.heap.size := by omega
  go_wp2_with fail
  refine (acked_any _ _ _ _ _ _ _).mono ?_
  rw [s4]
  rintro e w3 ⟨rfl, g3⟩
  have z3 := g3.size
  (try simp only [World.size_alloc] at z3)
  have y3 : w1.heap.size < w3.heap.size := by omega
  have b0 : w3.cell? ⟨w1.heap.size, 0, none⟩ = some (.int .i64 0) := Eq.trans (Gr.cell g3 (by first | (simp; done) | (simp; omega) | omega)) (by go_simp); have b1 : w3.cell? ⟨w1.heap.size, 1, none⟩ = some (.int .i64 0) := Eq.trans (Gr.cell g3 (by first | (simp; done) | (simp; omega) | omega)) (by go_simp); have b2 : w3.cell? ⟨w1.heap.size, 2, none⟩ = some (.int .i64 1) := Eq.trans (Gr.cell g3 (by first | (simp; done) | (simp; omega) | omega)) (by go_simp); have b3 : w3.cell? ⟨w1.heap.size, 3, none⟩ = some (.int .i64 1) := Eq.trans (Gr.cell g3 (by first | (simp; done) | (simp; omega) | omega)) (by go_simp)
  clear r0 r1 r2 r3 a0 a1 a2 a3
  go_wp2_with fail
  refine (synchronized_any _ _ _ _ _ _ (by omega) (by omega) _).mono ?_
  rintro e w4 ⟨rfl, g4⟩
  have c0 : w4.cell? ⟨w1.heap.size, 0, none⟩ = some (.int .i64 0) := Eq.trans (Gr.cell g4 (by first | (simp; done) | (simp; omega) | omega)) (by go_simp); have c1 : w4.cell? ⟨w1.heap.size, 1, none⟩ = some (.int .i64 0) := Eq.trans (Gr.cell g4 (by first | (simp; done) | (simp; omega) | omega)) (by go_simp); have c2 : w4.cell? ⟨w1.heap.size, 2, none⟩ = some (.int .i64 1) := Eq.trans (Gr.cell g4 (by first | (simp; done) | (simp; omega) | omega)) (by go_simp); have c3 : w4.cell? ⟨w1.heap.size, 3, none⟩ = some (.int .i64 1) := Eq.trans (Gr.cell g4 (by first | (simp; done) | (simp; omega) | omega)) (by go_simp)
  clear b0 b1 b2 b3
  go_wp2_with fail
  refine (synchronized_any _ _ _ _ _ _ (by omega) (by omega) _).mono ?_
  rintro e w5 ⟨rfl, g5⟩
  go_wp2
  go_ret
  exact ⟨rfl, by repeat (first | (with_reducible exact Gr.refl _) | (with_reducible assumption) | (with_reducible refine Gr.alloc ?_ _) | (with_reducible refine Gr.drewN ?_ _) | (with_reducible refine Gr.drew ?_) | (with_reducible refine Gr.grown ?_ _ _) | (with_reducible refine Gr.regrown ?_ _ _) | (with_reducible refine Gr.setCell ?_ (by first | omega | (simp; omega) | simp) _) | (with_reducible refine Gr.trans ?_ (by with_reducible assumption)))⟩
end Go.Proofs.Ytjiaemmhjkhdhaa

/- The contracts of package guard's inner functions: in, right, growth, length, step, spread. -/
import Derived.Test.YthpcngglehgfjaaRows
import Derived.Test.YthpcngglehgfjaaGr
import Derived.Test.YthpcngglehgfjaaGrdPlain
import Derived.Test.YthpcngglehgfjaaClkB
import Derived.WalkLawsBesides
import Derived.Laws.EntriesVeiled
import Derived.Handy
namespace Go.Proofs.Ythpcngglehgfjaa
open Go.RowKit Go.Sort

theorem ret_bool' {a b : Bool} (h : a = b) : Ending.returned (.bool a) = .returned (.bool b) := by rw [h]

set_option maxHeartbeats 400000 in
theorem gin_any (n m : Int) (w : World) :
    Calls Try.prog 35 #[.int .i64 n, .int .i64 m] w fun e w' => e = .returned (.bool (decide (0 ≤ n ∧ n ≤ m))) ∧ w' = w := by
  go_enter Try.func35, Try.ntmps35
  go_wp2
  all_goals
    go_ret
    exact ⟨ret_bool' (by simp <;> omega), rfl⟩

set_option maxHeartbeats 400000 in
theorem right_any (a b dr : Int) (w : World) :
    Calls Try.prog 34 #[.agg #[.int .i64 a, .int .i64 b, .int .i64 dr]] w fun e w' => e = .returned (.bool (Gd.rgt a b dr)) ∧ Gr w w' := by
  go_enter Try.func34, Try.ntmps34
  go_wp2_with (first | (go_at_call 35; refine (gin_any _ _ _).mono ?_; rintro e w' ⟨rfl, rfl⟩))
  all_goals
    go_ret
    exact ⟨ret_bool' (by unfold Gd.rgt; rw [Bool.eq_iff_iff]; simp; omega), by repeat (first | (with_reducible exact Gr.refl _) | (with_reducible assumption) | (with_reducible refine Gr.alloc ?_ _) | (with_reducible refine Gr.drewN ?_ _) | (with_reducible refine Gr.drew ?_) | (with_reducible refine Gr.grown ?_ _ _) | (with_reducible refine Gr.setCell ?_ (by first | omega | (simp; omega) | simp) _) | (with_reducible refine Gr.trans ?_ (by with_reducible assumption)))⟩

set_option maxHeartbeats 400000 in
theorem growth_any (a b dr t : Int) (t0 : 0 ≤ t) (t1 : t ≤ 1099511627776) (d0 : 0 ≤ dr) (hd : dr ≤ 100000) (w : World) :
    Calls Try.prog 36 #[.agg #[.int .i64 a, .int .i64 b, .int .i64 dr], .int .i64 t] w fun e w' => e = .returned (.int .i64 (Gd.gr t dr)) ∧ Gr w w' := by
  obtain ⟨p1, p2⟩ := Gd.pr_bd t dr t0 t1 d0 hd
  go_enter Try.func36, Try.ntmps36
  go_wp2
  go_ret
  exact ⟨rfl, by repeat (first | (with_reducible exact Gr.refl _) | (with_reducible assumption) | (with_reducible refine Gr.alloc ?_ _) | (with_reducible refine Gr.drewN ?_ _) | (with_reducible refine Gr.drew ?_) | (with_reducible refine Gr.grown ?_ _ _) | (with_reducible refine Gr.setCell ?_ (by first | omega | (simp; omega) | simp) _) | (with_reducible refine Gr.trans ?_ (by with_reducible assumption)))⟩

set_option maxHeartbeats 400000 in
theorem length_any (a b dr k : Int) (k0 : 0 ≤ k) (k1 : k ≤ 4096) (d0 : 0 ≤ dr) (hd : dr ≤ 100000) (w : World) :
    Calls Try.prog 40 #[.agg #[.int .i64 a, .int .i64 b, .int .i64 dr], .int .i64 k] w fun e w' => e = .returned (.int .i64 (Gd.ln k dr)) ∧ Gr w w' := by
  go_enter Try.func40, Try.ntmps40
  go_wp2
  go_ret
  exact ⟨rfl, by repeat (first | (with_reducible exact Gr.refl _) | (with_reducible assumption) | (with_reducible refine Gr.alloc ?_ _) | (with_reducible refine Gr.drewN ?_ _) | (with_reducible refine Gr.drew ?_) | (with_reducible refine Gr.grown ?_ _ _) | (with_reducible refine Gr.setCell ?_ (by first | omega | (simp; omega) | simp) _) | (with_reducible refine Gr.trans ?_ (by with_reducible assumption)))⟩

set_option maxHeartbeats 400000 in
theorem step_any (a b dr k : Int) (k0 : 0 ≤ k) (k1 : k ≤ 4096) (d0 : 0 ≤ dr) (hd : dr ≤ 100000) (w : World) :
    Calls Try.prog 42 #[.agg #[.int .i64 a, .int .i64 b, .int .i64 dr], .int .i64 k] w fun e w' => e = .returned (.int .i64 (Gd.st k dr)) ∧ Gr w w' := by
  obtain ⟨l1, l2, l3⟩ := Gd.ln_bd k dr k0 k1 d0 hd
  obtain ⟨g1, g2⟩ := Gd.gr_bd (Gd.ln k dr) dr (by omega) (by omega) d0 hd
  have q0 := fun n os => cell_grown (w := w.alloc (Obj.cells #[Value.int IntKind.i64 a, Value.int IntKind.i64 b, Value.int IntKind.i64 dr] 47)) (a := ⟨w.heap.size, 0, none⟩) (v := .int .i64 a) (by simp) (by go_simp) n os
  have q1 := fun n os => cell_grown (w := w.alloc (Obj.cells #[Value.int IntKind.i64 a, Value.int IntKind.i64 b, Value.int IntKind.i64 dr] 47)) (a := ⟨w.heap.size, 1, none⟩) (v := .int .i64 b) (by simp) (by go_simp) n os
  have q2 := fun n os => cell_grown (w := w.alloc (Obj.cells #[Value.int IntKind.i64 a, Value.int IntKind.i64 b, Value.int IntKind.i64 dr] 47)) (a := ⟨w.heap.size, 2, none⟩) (v := .int .i64 dr) (by simp) (by go_simp) n os
  have mixed : Try.prog.follows .mixedOrders = true := by kernel_rfl
  go_enter Try.func42, Try.ntmps42
  go_wp2_with fail
  go_quiet_grown ((first | (go_at_call 36; exact Calls.grown_of (growth_any _ _ _ _ (by omega) (by omega) d0 hd _)) | (go_at_call 40; exact Calls.grown_of (length_any _ _ _ _ k0 k1 d0 hd _))))
  go_wp2
  go_ret
  exact ⟨ret_int (by rw [IntWalk.i64_in _ (by omega)]; rfl), by repeat (first | (with_reducible exact Gr.refl _) | (with_reducible assumption) | (with_reducible refine Gr.alloc ?_ _) | (with_reducible refine Gr.drewN ?_ _) | (with_reducible refine Gr.drew ?_) | (with_reducible refine Gr.grown ?_ _ _) | (with_reducible refine Gr.setCell ?_ (by first | omega | (simp; omega) | simp) _) | (with_reducible refine Gr.trans ?_ (by with_reducible assumption)))⟩

set_option maxHeartbeats 400000 in
theorem spread_any (a b dr k : Int) (a0 : 0 ≤ a) (a1 : a ≤ 32) (b0 : 0 ≤ b) (b1 : b ≤ 32) (k0 : 0 ≤ k) (k1 : k ≤ 4096) (d0 : 0 ≤ dr) (hd : dr ≤ 100000) (w : World) :
    Calls Try.prog 43 #[.agg #[.int .i64 a, .int .i64 b, .int .i64 dr], .int .i64 k] w fun e w' => e = .returned (.int .i64 (Gd.sp a b k dr)) ∧ Gr w w' := by
  obtain ⟨b1', b2'⟩ := Gd.sp_bd a b k dr a0 a1 b0 b1 k0 k1 d0 hd
  unfold Gd.sp at b1' b2'
  have q0 := fun n os => cell_grown (w := w.alloc (Obj.cells #[Value.int IntKind.i64 a, Value.int IntKind.i64 b, Value.int IntKind.i64 dr] 47)) (a := ⟨w.heap.size, 0, none⟩) (v := .int .i64 a) (by simp) (by go_simp) n os
  have q1 := fun n os => cell_grown (w := w.alloc (Obj.cells #[Value.int IntKind.i64 a, Value.int IntKind.i64 b, Value.int IntKind.i64 dr] 47)) (a := ⟨w.heap.size, 1, none⟩) (v := .int .i64 b) (by simp) (by go_simp) n os
  have q2 := fun n os => cell_grown (w := w.alloc (Obj.cells #[Value.int IntKind.i64 a, Value.int IntKind.i64 b, Value.int IntKind.i64 dr] 47)) (a := ⟨w.heap.size, 2, none⟩) (v := .int .i64 dr) (by simp) (by go_simp) n os
  have mixed : Try.prog.follows .mixedOrders = true := by kernel_rfl
  have hab : IntKind.i64.wrap (a + b) = a + b := IntWalk.i64_in _ (by omega)
  go_enter Try.func43, Try.ntmps43
  go_wp2_with fail
  go_quiet_grown ((first | (go_at_call 42; exact Calls.grown_of (step_any _ _ _ _ k0 k1 d0 hd _))))
  go_wp2
  go_ret
  exact ⟨ret_int (by rw [IntWalk.i64_in _ (by omega)]; rfl), by repeat (first | (with_reducible exact Gr.refl _) | (with_reducible assumption) | (with_reducible refine Gr.alloc ?_ _) | (with_reducible refine Gr.drewN ?_ _) | (with_reducible refine Gr.drew ?_) | (with_reducible refine Gr.grown ?_ _ _) | (with_reducible refine Gr.setCell ?_ (by first | omega | (simp; omega) | simp) _) | (with_reducible refine Gr.trans ?_ (by with_reducible assumption)))⟩
end Go.Proofs.Ythpcngglehgfjaa

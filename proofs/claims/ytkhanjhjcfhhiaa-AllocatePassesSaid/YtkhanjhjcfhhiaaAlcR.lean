/- The contracts of allocate's rules, one by one. -/
import Derived.Test.YtkhanjhjcfhhiaaRows
import Derived.Test.YtkhanjhjcfhhiaaGr
import Derived.Test.YtkhanjhjcfhhiaaRet
import Derived.Test.YtkhanjhjcfhhiaaAlcDec
import Derived.WalkLawsBesides
import Derived.Laws.EntriesVeiled
import Derived.Handy
namespace Go.Proofs.Ytkhanjhjcfhhiaa
open Go.RowKit Go.Sort
set_option linter.unusedVariables false

/-- the facts are small -/
structure FxB (x : Fx) : Prop where
  n0 : 0 ≤ x.n
  n1 : x.n ≤ 64
  b0 : 0 ≤ x.bk
  b1 : x.bk ≤ 1048576
  l0 : 0 ≤ x.lo
  l1 : x.lo ≤ 64
  h0 : 0 ≤ x.hi
  h1 : x.hi ≤ 64
  u0 : 0 ≤ x.us
  u1 : x.us ≤ 4096
  p0 : 0 ≤ x.pa
  p1 : x.pa ≤ 4096

set_option maxHeartbeats 400000 in
theorem rule0_any (x : Fx) (hx : FxB x) (w : World) :
    Calls Try.prog 51 #[.agg #[.int .i64 x.n, .int .i64 x.bk, .int .i64 x.lo, .int .i64 x.hi, .int .i64 x.us, .int .i64 x.pa, .bool x.w]] w fun e w' => e = .returned (.bool (Al.rp x 0)) ∧ Gr w w' := by
  obtain ⟨_, _, _, _, _, _, _, _, _, _, _, _⟩ := hx
  go_enter Try.func51, Try.ntmps51
  go_wp2_with fail
  all_goals
    go_ret
    exact ⟨ret_bool (by unfold Al.rp; first | rfl | (rw [Bool.eq_iff_iff]; simp; try omega)), by repeat (first | (with_reducible exact Gr.refl _) | (with_reducible assumption) | (with_reducible refine Gr.alloc ?_ _) | (with_reducible refine Gr.drewN ?_ _) | (with_reducible refine Gr.drew ?_) | (with_reducible refine Gr.grown ?_ _ _) | (with_reducible refine Gr.regrown ?_ _ _) | (with_reducible refine Gr.setCell ?_ (by first | omega | (simp; omega) | simp) _) | (with_reducible refine Gr.trans ?_ (by with_reducible assumption)))⟩
set_option maxHeartbeats 400000 in
theorem rule1_any (x : Fx) (hx : FxB x) (w : World) :
    Calls Try.prog 53 #[.agg #[.int .i64 x.n, .int .i64 x.bk, .int .i64 x.lo, .int .i64 x.hi, .int .i64 x.us, .int .i64 x.pa, .bool x.w]] w fun e w' => e = .returned (.bool (Al.rp x 1)) ∧ Gr w w' := by
  obtain ⟨_, _, _, _, _, _, _, _, _, _, _, _⟩ := hx
  by_cases c0 : x.n = 0
  · have c0' := bt c0
    by_cases c1 : 0 < x.bk
    · have c1' := bt c1
      go_enter Try.func53, Try.ntmps53
      go_wp2_with fail
      all_goals
        go_ret
        exact ⟨ret_bool (by unfold Al.rp; first | rfl | (rw [Bool.eq_iff_iff]; simp; try omega)), by repeat (first | (with_reducible exact Gr.refl _) | (with_reducible assumption) | (with_reducible refine Gr.alloc ?_ _) | (with_reducible refine Gr.drewN ?_ _) | (with_reducible refine Gr.drew ?_) | (with_reducible refine Gr.grown ?_ _ _) | (with_reducible refine Gr.regrown ?_ _ _) | (with_reducible refine Gr.setCell ?_ (by first | omega | (simp; omega) | simp) _) | (with_reducible refine Gr.trans ?_ (by with_reducible assumption)))⟩
    · have c1' := bf c1
      go_enter Try.func53, Try.ntmps53
      go_wp2_with fail
      all_goals
        go_ret
        exact ⟨ret_bool (by unfold Al.rp; rw [Bool.eq_iff_iff]; simp; try omega), by repeat (first | (with_reducible exact Gr.refl _) | (with_reducible assumption) | (with_reducible refine Gr.alloc ?_ _) | (with_reducible refine Gr.drewN ?_ _) | (with_reducible refine Gr.drew ?_) | (with_reducible refine Gr.grown ?_ _ _) | (with_reducible refine Gr.regrown ?_ _ _) | (with_reducible refine Gr.setCell ?_ (by first | omega | (simp; omega) | simp) _) | (with_reducible refine Gr.trans ?_ (by with_reducible assumption)))⟩
  · have c0' := bf c0
    have c0'' : (x.n == 0) = false := by simpa using c0
    go_enter Try.func53, Try.ntmps53
    go_wp2_with fail
    all_goals
      go_ret
      exact ⟨ret_bool (by unfold Al.rp; rw [Bool.eq_iff_iff]; simp; try omega), by repeat (first | (with_reducible exact Gr.refl _) | (with_reducible assumption) | (with_reducible refine Gr.alloc ?_ _) | (with_reducible refine Gr.drewN ?_ _) | (with_reducible refine Gr.drew ?_) | (with_reducible refine Gr.grown ?_ _ _) | (with_reducible refine Gr.regrown ?_ _ _) | (with_reducible refine Gr.setCell ?_ (by first | omega | (simp; omega) | simp) _) | (with_reducible refine Gr.trans ?_ (by with_reducible assumption)))⟩
set_option maxHeartbeats 400000 in
theorem rule2_any (x : Fx) (hx : FxB x) (w : World) :
    Calls Try.prog 54 #[.agg #[.int .i64 x.n, .int .i64 x.bk, .int .i64 x.lo, .int .i64 x.hi, .int .i64 x.us, .int .i64 x.pa, .bool x.w]] w fun e w' => e = .returned (.bool (Al.rp x 2)) ∧ Gr w w' := by
  obtain ⟨_, _, _, _, _, _, _, _, _, _, _, _⟩ := hx
  go_enter Try.func54, Try.ntmps54
  go_wp2_with fail
  all_goals
    go_ret
    exact ⟨ret_bool (by unfold Al.rp; first | rfl | (rw [Bool.eq_iff_iff]; simp; try omega)), by repeat (first | (with_reducible exact Gr.refl _) | (with_reducible assumption) | (with_reducible refine Gr.alloc ?_ _) | (with_reducible refine Gr.drewN ?_ _) | (with_reducible refine Gr.drew ?_) | (with_reducible refine Gr.grown ?_ _ _) | (with_reducible refine Gr.regrown ?_ _ _) | (with_reducible refine Gr.setCell ?_ (by first | omega | (simp; omega) | simp) _) | (with_reducible refine Gr.trans ?_ (by with_reducible assumption)))⟩
set_option maxHeartbeats 400000 in
theorem rule3_any (x : Fx) (hx : FxB x) (w : World) :
    Calls Try.prog 55 #[.agg #[.int .i64 x.n, .int .i64 x.bk, .int .i64 x.lo, .int .i64 x.hi, .int .i64 x.us, .int .i64 x.pa, .bool x.w]] w fun e w' => e = .returned (.bool (Al.rp x 3)) ∧ Gr w w' := by
  obtain ⟨_, _, _, _, _, _, _, _, _, _, _, _⟩ := hx
  by_cases c0 : 4 * x.n < x.bk
  · have c0' := bt c0
    go_enter Try.func55, Try.ntmps55
    go_wp2_with fail
    all_goals
      go_ret
      exact ⟨ret_bool (by unfold Al.rp; first | rfl | (rw [Bool.eq_iff_iff]; simp; try omega)), by repeat (first | (with_reducible exact Gr.refl _) | (with_reducible assumption) | (with_reducible refine Gr.alloc ?_ _) | (with_reducible refine Gr.drewN ?_ _) | (with_reducible refine Gr.drew ?_) | (with_reducible refine Gr.grown ?_ _ _) | (with_reducible refine Gr.regrown ?_ _ _) | (with_reducible refine Gr.setCell ?_ (by first | omega | (simp; omega) | simp) _) | (with_reducible refine Gr.trans ?_ (by with_reducible assumption)))⟩
  · have c0' := bf c0
    go_enter Try.func55, Try.ntmps55
    go_wp2_with fail
    all_goals
      go_ret
      exact ⟨ret_bool (by unfold Al.rp; rw [Bool.eq_iff_iff]; simp; try omega), by repeat (first | (with_reducible exact Gr.refl _) | (with_reducible assumption) | (with_reducible refine Gr.alloc ?_ _) | (with_reducible refine Gr.drewN ?_ _) | (with_reducible refine Gr.drew ?_) | (with_reducible refine Gr.grown ?_ _ _) | (with_reducible refine Gr.regrown ?_ _ _) | (with_reducible refine Gr.setCell ?_ (by first | omega | (simp; omega) | simp) _) | (with_reducible refine Gr.trans ?_ (by with_reducible assumption)))⟩
set_option maxHeartbeats 400000 in
theorem rule4_any (x : Fx) (hx : FxB x) (w : World) :
    Calls Try.prog 57 #[.agg #[.int .i64 x.n, .int .i64 x.bk, .int .i64 x.lo, .int .i64 x.hi, .int .i64 x.us, .int .i64 x.pa, .bool x.w]] w fun e w' => e = .returned (.bool (Al.rp x 4)) ∧ Gr w w' := by
  obtain ⟨_, _, _, _, _, _, _, _, _, _, _, _⟩ := hx
  go_enter Try.func57, Try.ntmps57
  go_wp2_with fail
  all_goals
    go_ret
    exact ⟨ret_bool (by unfold Al.rp; first | rfl | (rw [Bool.eq_iff_iff]; simp; try omega)), by repeat (first | (with_reducible exact Gr.refl _) | (with_reducible assumption) | (with_reducible refine Gr.alloc ?_ _) | (with_reducible refine Gr.drewN ?_ _) | (with_reducible refine Gr.drew ?_) | (with_reducible refine Gr.grown ?_ _ _) | (with_reducible refine Gr.regrown ?_ _ _) | (with_reducible refine Gr.setCell ?_ (by first | omega | (simp; omega) | simp) _) | (with_reducible refine Gr.trans ?_ (by with_reducible assumption)))⟩
set_option maxHeartbeats 400000 in
theorem rule5_any (x : Fx) (hx : FxB x) (w : World) :
    Calls Try.prog 58 #[.agg #[.int .i64 x.n, .int .i64 x.bk, .int .i64 x.lo, .int .i64 x.hi, .int .i64 x.us, .int .i64 x.pa, .bool x.w]] w fun e w' => e = .returned (.bool (Al.rp x 5)) ∧ Gr w w' := by
  obtain ⟨_, _, _, _, _, _, _, _, _, _, _, _⟩ := hx
  by_cases c0 : 3 * x.pa ≤ 4 * x.us
  · have c0' := bt c0
    go_enter Try.func58, Try.ntmps58
    go_wp2_with fail
    all_goals
      go_ret
      exact ⟨ret_bool (by unfold Al.rp; first | rfl | (rw [Bool.eq_iff_iff]; simp; try omega)), by repeat (first | (with_reducible exact Gr.refl _) | (with_reducible assumption) | (with_reducible refine Gr.alloc ?_ _) | (with_reducible refine Gr.drewN ?_ _) | (with_reducible refine Gr.drew ?_) | (with_reducible refine Gr.grown ?_ _ _) | (with_reducible refine Gr.regrown ?_ _ _) | (with_reducible refine Gr.setCell ?_ (by first | omega | (simp; omega) | simp) _) | (with_reducible refine Gr.trans ?_ (by with_reducible assumption)))⟩
  · have c0' := bf c0
    go_enter Try.func58, Try.ntmps58
    go_wp2_with fail
    all_goals
      go_ret
      exact ⟨ret_bool (by unfold Al.rp; rw [Bool.eq_iff_iff]; simp; try omega), by repeat (first | (with_reducible exact Gr.refl _) | (with_reducible assumption) | (with_reducible refine Gr.alloc ?_ _) | (with_reducible refine Gr.drewN ?_ _) | (with_reducible refine Gr.drew ?_) | (with_reducible refine Gr.grown ?_ _ _) | (with_reducible refine Gr.regrown ?_ _ _) | (with_reducible refine Gr.setCell ?_ (by first | omega | (simp; omega) | simp) _) | (with_reducible refine Gr.trans ?_ (by with_reducible assumption)))⟩
set_option maxHeartbeats 400000 in
theorem rule6_any (x : Fx) (hx : FxB x) (w : World) :
    Calls Try.prog 59 #[.agg #[.int .i64 x.n, .int .i64 x.bk, .int .i64 x.lo, .int .i64 x.hi, .int .i64 x.us, .int .i64 x.pa, .bool x.w]] w fun e w' => e = .returned (.bool (Al.rp x 6)) ∧ Gr w w' := by
  obtain ⟨_, _, _, _, _, _, _, _, _, _, _, _⟩ := hx
  by_cases c0 : 4 * x.us < x.pa
  · have c0' := bt c0
    by_cases c1 : x.lo < x.n
    · have c1' := bt c1
      go_enter Try.func59, Try.ntmps59
      go_wp2_with fail
      all_goals
        go_ret
        exact ⟨ret_bool (by unfold Al.rp; first | rfl | (rw [Bool.eq_iff_iff]; simp; try omega)), by repeat (first | (with_reducible exact Gr.refl _) | (with_reducible assumption) | (with_reducible refine Gr.alloc ?_ _) | (with_reducible refine Gr.drewN ?_ _) | (with_reducible refine Gr.drew ?_) | (with_reducible refine Gr.grown ?_ _ _) | (with_reducible refine Gr.regrown ?_ _ _) | (with_reducible refine Gr.setCell ?_ (by first | omega | (simp; omega) | simp) _) | (with_reducible refine Gr.trans ?_ (by with_reducible assumption)))⟩
    · have c1' := bf c1
      go_enter Try.func59, Try.ntmps59
      go_wp2_with fail
      all_goals
        go_ret
        exact ⟨ret_bool (by unfold Al.rp; rw [Bool.eq_iff_iff]; simp; try omega), by repeat (first | (with_reducible exact Gr.refl _) | (with_reducible assumption) | (with_reducible refine Gr.alloc ?_ _) | (with_reducible refine Gr.drewN ?_ _) | (with_reducible refine Gr.drew ?_) | (with_reducible refine Gr.grown ?_ _ _) | (with_reducible refine Gr.regrown ?_ _ _) | (with_reducible refine Gr.setCell ?_ (by first | omega | (simp; omega) | simp) _) | (with_reducible refine Gr.trans ?_ (by with_reducible assumption)))⟩
  · have c0' := bf c0
    go_enter Try.func59, Try.ntmps59
    go_wp2_with fail
    all_goals
      go_ret
      exact ⟨ret_bool (by unfold Al.rp; rw [Bool.eq_iff_iff]; simp; try omega), by repeat (first | (with_reducible exact Gr.refl _) | (with_reducible assumption) | (with_reducible refine Gr.alloc ?_ _) | (with_reducible refine Gr.drewN ?_ _) | (with_reducible refine Gr.drew ?_) | (with_reducible refine Gr.grown ?_ _ _) | (with_reducible refine Gr.regrown ?_ _ _) | (with_reducible refine Gr.setCell ?_ (by first | omega | (simp; omega) | simp) _) | (with_reducible refine Gr.trans ?_ (by with_reducible assumption)))⟩
set_option maxHeartbeats 400000 in
theorem rule7_any (x : Fx) (hx : FxB x) (w : World) :
    Calls Try.prog 60 #[.agg #[.int .i64 x.n, .int .i64 x.bk, .int .i64 x.lo, .int .i64 x.hi, .int .i64 x.us, .int .i64 x.pa, .bool x.w]] w fun e w' => e = .returned (.bool (Al.rp x 7)) ∧ Gr w w' := by
  obtain ⟨_, _, _, _, _, _, _, _, _, _, _, _⟩ := hx
  go_enter Try.func60, Try.ntmps60
  go_wp2_with fail
  all_goals
    go_ret
    exact ⟨rfl, by repeat (first | (with_reducible exact Gr.refl _) | (with_reducible assumption) | (with_reducible refine Gr.alloc ?_ _) | (with_reducible refine Gr.drewN ?_ _) | (with_reducible refine Gr.drew ?_) | (with_reducible refine Gr.grown ?_ _ _) | (with_reducible refine Gr.regrown ?_ _ _) | (with_reducible refine Gr.setCell ?_ (by first | omega | (simp; omega) | simp) _) | (with_reducible refine Gr.trans ?_ (by with_reducible assumption)))⟩
set_option maxHeartbeats 400000 in
theorem rule8_any (x : Fx) (hx : FxB x) (w : World) :
    Calls Try.prog 61 #[.agg #[.int .i64 x.n, .int .i64 x.bk, .int .i64 x.lo, .int .i64 x.hi, .int .i64 x.us, .int .i64 x.pa, .bool x.w]] w fun e w' => e = .returned (.bool (Al.rp x 8)) ∧ Gr w w' := by
  obtain ⟨_, _, _, _, _, _, _, _, _, _, _, _⟩ := hx
  go_enter Try.func61, Try.ntmps61
  go_wp2_with fail
  all_goals
    go_ret
    exact ⟨rfl, by repeat (first | (with_reducible exact Gr.refl _) | (with_reducible assumption) | (with_reducible refine Gr.alloc ?_ _) | (with_reducible refine Gr.drewN ?_ _) | (with_reducible refine Gr.drew ?_) | (with_reducible refine Gr.grown ?_ _ _) | (with_reducible refine Gr.regrown ?_ _ _) | (with_reducible refine Gr.setCell ?_ (by first | omega | (simp; omega) | simp) _) | (with_reducible refine Gr.trans ?_ (by with_reducible assumption)))⟩
set_option maxHeartbeats 400000 in
theorem count1_any (x : Fx) (w : World) :
    Calls Try.prog 49 #[.agg #[.int .i64 x.n, .int .i64 x.bk, .int .i64 x.lo, .int .i64 x.hi, .int .i64 x.us, .int .i64 x.pa, .bool x.w]] w fun e w' => e = .returned (.int .i64 1) ∧ Gr w w' := by
  go_enter Try.func49, Try.ntmps49
  go_wp2_with fail
  all_goals
    go_ret
    exact ⟨rfl, by repeat (first | (with_reducible exact Gr.refl _) | (with_reducible assumption) | (with_reducible refine Gr.alloc ?_ _) | (with_reducible refine Gr.drewN ?_ _) | (with_reducible refine Gr.drew ?_) | (with_reducible refine Gr.grown ?_ _ _) | (with_reducible refine Gr.regrown ?_ _ _) | (with_reducible refine Gr.setCell ?_ (by first | omega | (simp; omega) | simp) _) | (with_reducible refine Gr.trans ?_ (by with_reducible assumption)))⟩
set_option maxHeartbeats 400000 in
theorem count2_any (x : Fx) (w : World) :
    Calls Try.prog 50 #[.agg #[.int .i64 x.n, .int .i64 x.bk, .int .i64 x.lo, .int .i64 x.hi, .int .i64 x.us, .int .i64 x.pa, .bool x.w]] w fun e w' => e = .returned (.int .i64 0) ∧ Gr w w' := by
  go_enter Try.func50, Try.ntmps50
  go_wp2_with fail
  all_goals
    go_ret
    exact ⟨rfl, by repeat (first | (with_reducible exact Gr.refl _) | (with_reducible assumption) | (with_reducible refine Gr.alloc ?_ _) | (with_reducible refine Gr.drewN ?_ _) | (with_reducible refine Gr.drew ?_) | (with_reducible refine Gr.grown ?_ _ _) | (with_reducible refine Gr.regrown ?_ _ _) | (with_reducible refine Gr.setCell ?_ (by first | omega | (simp; omega) | simp) _) | (with_reducible refine Gr.trans ?_ (by with_reducible assumption)))⟩
set_option maxHeartbeats 400000 in
theorem count4_any (x : Fx) (hx : FxB x) (hr : Al.rp x 0 = true) (w : World) :
    Calls Try.prog 52 #[.agg #[.int .i64 x.n, .int .i64 x.bk, .int .i64 x.lo, .int .i64 x.hi, .int .i64 x.us, .int .i64 x.pa, .bool x.w]] w fun e w' => e = .returned (.int .i64 (Al.rc x 0)) ∧ Gr w w' := by
  obtain ⟨_, _, _, _, _, _, _, _, _, _, _, _⟩ := hx
  have hr2 := of_decide_eq_true hr
  clear hr
  go_enter Try.func52, Try.ntmps52
  go_wp2_with fail
  all_goals
    go_ret
    exact ⟨ret_int (by unfold Al.rc; first | rfl | omega | (simp; omega)), by repeat (first | (with_reducible exact Gr.refl _) | (with_reducible assumption) | (with_reducible refine Gr.alloc ?_ _) | (with_reducible refine Gr.drewN ?_ _) | (with_reducible refine Gr.drew ?_) | (with_reducible refine Gr.grown ?_ _ _) | (with_reducible refine Gr.regrown ?_ _ _) | (with_reducible refine Gr.setCell ?_ (by first | omega | (simp; omega) | simp) _) | (with_reducible refine Gr.trans ?_ (by with_reducible assumption)))⟩
set_option maxHeartbeats 400000 in
theorem count8_any (x : Fx) (hx : FxB x) (hr : Al.rp x 3 = true) (w : World) :
    Calls Try.prog 56 #[.agg #[.int .i64 x.n, .int .i64 x.bk, .int .i64 x.lo, .int .i64 x.hi, .int .i64 x.us, .int .i64 x.pa, .bool x.w]] w fun e w' => e = .returned (.int .i64 (Al.rc x 3)) ∧ Gr w w' := by
  obtain ⟨_, _, _, _, _, _, _, _, _, _, _, _⟩ := hx
  have hr2 := of_decide_eq_true hr
  have q0 : 0 ≤ x.bk - 4 * x.n + 3 := by omega
  clear hr
  go_enter Try.func56, Try.ntmps56
  go_wp2_with fail
  all_goals
    go_ret
    exact ⟨ret_int (by unfold Al.rc; first | rfl | omega | (simp; omega)), by repeat (first | (with_reducible exact Gr.refl _) | (with_reducible assumption) | (with_reducible refine Gr.alloc ?_ _) | (with_reducible refine Gr.drewN ?_ _) | (with_reducible refine Gr.drew ?_) | (with_reducible refine Gr.grown ?_ _ _) | (with_reducible refine Gr.regrown ?_ _ _) | (with_reducible refine Gr.setCell ?_ (by first | omega | (simp; omega) | simp) _) | (with_reducible refine Gr.trans ?_ (by with_reducible assumption)))⟩
end Go.Proofs.Ytkhanjhjcfhhiaa

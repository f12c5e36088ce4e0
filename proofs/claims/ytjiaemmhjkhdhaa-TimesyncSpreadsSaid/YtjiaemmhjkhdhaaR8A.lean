/- The contracts of the reference of package clock: Floor, Check, Time, At, Reach, in, Send. -/
import Derived.Test.YtjiaemmhjkhdhaaRows
import Derived.Test.YtjiaemmhjkhdhaaGr
import Derived.Test.YtjiaemmhjkhdhaaClkPlain
import Derived.WalkLawsBesides
import Derived.Handy
import Derived.Deep.LoopGhost
import Derived.Test.YtjiaemmhjkhdhaaClkA
namespace Go.Proofs.Ytjiaemmhjkhdhaa
open Go.RowKit Go.Sort

set_option maxHeartbeats 400000 in
theorem rfloor_any (a b : Int) (ha : -9000000000000000000 ≤ a) (ha' : a ≤ 9000000000000000000) (hb : 0 < b) (hb' : b ≤ 1000000000) (w : World) :
    Calls Try.prog 63 #[.int .i64 a, .int .i64 b] w fun e w' => e = .returned (.int .i64 (a / b)) ∧ w' = w := by
  by_cases h0 : 0 ≤ a
  · have hm := Int.emod_nonneg a (show b ≠ 0 by omega)
    go_enter Try.func63, Try.ntmps63
    go_wp2
    go_ret
    exact ⟨rfl, rfl⟩
  · obtain ⟨hl, hl'⟩ := Ck.tdiv_bd a b (by omega) hb
    by_cases h1 : a.tmod b < 0
    · have H : Hid (a.tdiv b - 1 = a / b) := Ck.floor_neg a b hb h1
      go_enter Try.func63, Try.ntmps63
      go_wp2
      go_ret
      exact ⟨ret_int H.out, rfl⟩
    · have H : Hid (a.tdiv b = a / b) := Ck.floor_zero a b (by omega) hb h1
      go_enter Try.func63, Try.ntmps63
      go_wp2
      go_ret
      exact ⟨ret_int H.out, rfl⟩

set_option maxHeartbeats 400000 in
theorem rcheck_any (o d : Int) (w : World) :
    Calls Try.prog 44 #[.agg #[.int .i64 o, .int .i64 d]] w fun e w' => e = .returned (.int .i64 (Ck.chk o d)) ∧ Gr w w' := by
  go_enter Try.func44, Try.ntmps44
  go_wp2
  all_goals
    go_ret
    exact ⟨ret_int (by unfold Ck.chk; split <;> omega), (Gr.refl _).alloc _⟩

theorem ret_bool {a b : Bool} (h : a = b) : Ending.returned (.bool a) = .returned (.bool b) := by rw [h]

set_option maxHeartbeats 400000 in
theorem rtime_any (t : Int) (w : World) :
    Calls Try.prog 46 #[.int .i64 t] w fun e w' => e = .returned (.bool (decide (0 ≤ t ∧ t ≤ 1099511627776))) ∧ w' = w := by
  go_enter Try.func46, Try.ntmps46
  go_wp2
  all_goals
    go_ret
    exact ⟨ret_bool (by simp <;> omega), rfl⟩

set_option maxHeartbeats 400000 in
theorem rat_any (o d t : Int) (h0 : 0 ≤ t) (h1 : t ≤ 1099511627776) (v : Ck.Valid o d) (w : World) :
    Calls Try.prog 47 #[.agg #[.int .i64 o, .int .i64 d], .int .i64 t] w fun e w' => e = .returned (.int .i64 (Ck.sh o d t)) ∧ Gr w w' := by
  have hp := Ck.prod_bd t d h0 h1 v.d1 v.d2
  obtain ⟨hp1, hp2⟩ := hp
  obtain ⟨o1, o2, d1, d2⟩ := v
  go_enter Try.func47, Try.ntmps47
  go_wp2_with fail
  go_quiet ((go_at_call 63; exact Calls.quiet_of_same (rfloor_any _ _ (by omega) (by omega) (by omega) (by omega) _)))
  go_wp2
  go_ret
  exact ⟨rfl, by repeat (first | (with_reducible exact Gr.refl _) | (with_reducible assumption) | (with_reducible refine Gr.alloc ?_ _) | (with_reducible refine Gr.drewN ?_ _) | (with_reducible refine Gr.drew ?_) | (with_reducible refine Gr.grown ?_ _ _) | (with_reducible refine Gr.regrown ?_ _ _) | (with_reducible refine Gr.setCell ?_ (by first | omega | (simp; omega) | simp) _) | (with_reducible refine Gr.trans ?_ (by with_reducible assumption)))⟩
end Go.Proofs.Ytjiaemmhjkhdhaa

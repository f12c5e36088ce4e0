/- The contracts of Check and Worst over lists of any length. -/
import Derived.Test.YtkhanjhjcfhhiaaAlcC
namespace Go.Proofs.Ytkhanjhjcfhhiaa
open Go.RowKit Go.Sort
set_option linter.unusedVariables false

set_option maxHeartbeats 1000000 in
theorem check_all (v : Value) (l : List Us) (w : World) (h : Rows 9 encU w v l) :
    Calls Try.prog 18 #[v] w fun e w' => e = .returned (.int .i64 (Al.chk l)) ∧ Gr w w' := by
  by_cases hl : l.length ≤ 64
  · exact check_any v l w h (by omega)
  · obtain ⟨A, c, rfl⟩ := h.slice
    have R := Lib.hid (Al.chk_big hl)
    have hz : (64 : Int) < (l.length : Int) := by omega
    clear h hl
    go_enter Try.func18, Try.ntmps18
    go_wp2
    go_ret
    exact ⟨ret_int R.out.symm, by repeat (first | (with_reducible exact Gr.refl _) | (with_reducible assumption) | (with_reducible refine Gr.alloc ?_ _) | (with_reducible refine Gr.drewN ?_ _) | (with_reducible refine Gr.drew ?_) | (with_reducible refine Gr.grown ?_ _ _) | (with_reducible refine Gr.regrown ?_ _ _) | (with_reducible refine Gr.setCell ?_ (by first | omega | (simp; omega) | simp) _) | (with_reducible refine Gr.trans ?_ (by with_reducible assumption)))⟩
set_option maxHeartbeats 1000000 in
theorem worst_all (v : Value) (l : List Us) (w : World) (h : Rows 9 encU w v l) :
    Calls Try.prog 12 #[v] w fun e w' => e = .returned (.tuple #[.int .i64 (Al.worN l), .bool (Al.worB l)]) ∧ Gr w w' := by
  by_cases hl : l.length ≤ 64
  · exact worst_any v l w h (by omega)
  · have C1 := check_all v l w h
    have hc := Al.chk_big hl
    have RU := Lib.hid (Al.wor_no (l := l) (by rw [hc]; decide))
    rw [hc] at C1
    obtain ⟨A, c, rfl⟩ := h.slice
    clear h hl hc
    go_enter Try.func12, Try.ntmps12
    go_wp2_with fail
    refine C1.mono ?_
    rintro e w1 ⟨rfl, g1⟩
    clear C1
    go_wp2_with fail
    go_ret2
    exact ⟨ret_ib RU.out.1.symm RU.out.2.symm, by repeat (first | (with_reducible exact Gr.refl _) | (with_reducible assumption) | (with_reducible refine Gr.alloc ?_ _) | (with_reducible refine Gr.drewN ?_ _) | (with_reducible refine Gr.drew ?_) | (with_reducible refine Gr.grown ?_ _ _) | (with_reducible refine Gr.regrown ?_ _ _) | (with_reducible refine Gr.setCell ?_ (by first | omega | (simp; omega) | simp) _) | (with_reducible refine Gr.trans ?_ (by with_reducible assumption)))⟩
end Go.Proofs.Ytkhanjhjcfhhiaa

/- The contract of the reference's Few; what the laws of chapter 50 begin with. -/
import Derived.Test.YtckkjiaoaeaaoaaLopI
import Derived.Test.YtckkjiaoaeaaoaaLopLaw
namespace Go.Proofs.Ytckkjiaoaeaaoaa
open Go.RowKit Go.Sort
set_option linter.unusedVariables false

set_option maxHeartbeats 400000 in
theorem rfew_any (A : Option Addr) (n c : Nat) (w : World) :
    Calls Try.prog 15 #[.slice A n c] w fun e w' => e = .returned (.bool (decide (n ≤ 24))) ∧ Gr w w' := by
  have E : Hid (decide ((n : Int) ≤ 24) = decide (n ≤ 24)) := (show _ = _ by by_cases h : n ≤ 24 <;> simp [h] <;> omega)
  go_enter Try.func15, Try.ntmps15
  go_wp2_with fail
  go_ret
  exact ⟨ret_bool E.out, by repeat (first | (with_reducible exact Gr.refl _) | (with_reducible assumption) | (with_reducible refine Gr.alloc ?_ _) | (with_reducible refine Gr.drewN ?_ _) | (with_reducible refine Gr.drew ?_) | (with_reducible refine Gr.grown ?_ _ _) | (with_reducible refine Gr.regrown ?_ _ _) | (with_reducible refine Gr.setCell ?_ (by first | omega | (simp; omega) | simp) _) | (with_reducible refine Gr.trans ?_ (by with_reducible assumption)))⟩
end Go.Proofs.Ytckkjiaoaeaaoaa

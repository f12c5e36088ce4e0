/- The walk of LoopChecks: the Go text returns true. -/
import Derived.Test.YtckkjiaoaeaaoaaLopI
import Derived.Test.YtckkjiaoaeaaoaaR50B
import Derived.Test.YtckkjiaoaeaaoaaLopOk
namespace Go.Proofs.Ytckkjiaoaeaaoaa.loopChecks
open Go.RowKit Go.Sort
set_option linter.unusedVariables false

set_option maxHeartbeats 2000000 in
theorem walk (n : Int) (v1 : Value) (l : List Lo) (wn : (Lit.int .i64 n).wf = true) (w : World) (rl : Rows 7 encL w v1 l) (bl : (l.length : Int) ≤ 9223372036854775807) (kl : ∀ A n c, v1 = .slice A n c → n ≤ c ∧ c ≤ 9223372036854775807) (wl : ∀ x ∈ l, okLo x) :
    Calls Try.prog 8 #[.int .i64 n, v1] w fun e w' => e = .returned (.bool true) ∧ Gr w w' := by
  obtain ⟨A, c, rfl⟩ := rl.slice
  have HR := Lib.hid rl
  clear rl kl wl wn
  by_cases hn : l.length ≤ 12
  · have bb : (l.length : Int) ≤ 4611686018427387904 := by omega
    have hz : decide ((12 : Int) < (l.length : Int)) = false := bf (by omega)
    go_enter Try.func8, Try.ntmps8
    go_wp2_with fail
    refine (lawake_any _).mono ?_
    rintro e w1 ⟨rfl, g1⟩
    have G1 : Aside (Gr w w1) := g1
    clear g1
    go_wp2_with fail
    refine (lcheck_any _ _ _ _ (HR.out.gr G1.out) bb).mono ?_
    rintro e w2 ⟨rfl, g2⟩
    have G2 : Aside (Gr w w2) := G1.out.trans g2
    clear g2
    go_wp2_with fail
    refine (rlcheck_any _ _ _ _ (HR.out.gr G2.out) bb).mono ?_
    rintro e w3 ⟨rfl, g3⟩
    have G3 : Aside (Gr w w3) := G2.out.trans g3
    clear g3
    go_wp2_with fail
    go_ret
    exact ⟨by first | rfl | simp, G3.out⟩
  · have hz : decide ((12 : Int) < (l.length : Int)) = true := bt (by omega)
    go_enter Try.func8, Try.ntmps8
    go_wp2_with fail
    refine (lawake_any _).mono ?_
    rintro e w1 ⟨rfl, g1⟩
    have G1 : Aside (Gr w w1) := g1
    clear g1
    go_wp2_with fail
    refine (lawake_any _).mono ?_
    rintro e w2 ⟨rfl, g2⟩
    have G2 : Aside (Gr w w2) := G1.out.trans g2
    clear g2
    go_wp2_with fail
    go_ret
    exact ⟨by first | rfl | simp, G2.out⟩
end Go.Proofs.Ytckkjiaoaeaaoaa.loopChecks

/- The walk of AllocateDecides: the Go text returns true. -/
import Derived.Test.YtkhanjhjcfhhiaaAlcAwake
import Derived.Test.YtkhanjhjcfhhiaaR29D
import Derived.Test.YtkhanjhjcfhhiaaAlcOk
namespace Go.Proofs.Ytkhanjhjcfhhiaa.allocateDecides
open Go.RowKit Go.Sort
set_option linter.unusedVariables false

set_option maxHeartbeats 4000000 in
theorem walk (v0 : Value) (l : List Us) (bk lo hi : Int) (w1 : (Lit.int .i64 bk).wf = true) (w2 : (Lit.int .i64 lo).wf = true) (w3 : (Lit.int .i64 hi).wf = true) (w : World) (rl : Rows 9 encU w v0 l) (bl : (l.length : Int) ≤ 9223372036854775807) (kl : ∀ A n c, v0 = .slice A n c → n ≤ c ∧ c ≤ 9223372036854775807) (wl : ∀ x ∈ l, okUs x) :
    Calls Try.prog 3 #[v0, .int .i64 bk, .int .i64 lo, .int .i64 hi] w fun e w' => e = .returned (.bool true) ∧ Gr w w' := by
  obtain ⟨A, c, rfl⟩ := rl.slice
  have HR := Lib.hid rl
  clear rl kl wl w1 w2 w3
  by_cases hn : (l.length : Int) ≤ 70
  · have bb : (l.length : Int) ≤ 4611686018427387904 := by omega
    go_enter Try.func3, Try.ntmps3
    go_wp2_with fail
    refine (awake_any _).mono ?_
    rintro e w1 ⟨rfl, g1⟩
    have G1 : Aside (Gr w w1) := g1
    clear g1
    go_wp2_with fail
    refine (few_any _ _ _ _).mono ?_
    rintro e w' ⟨rfl, rfl⟩
    go_wp2_with fail
    refine (worst_any _ _ _ (HR.out.gr G1.out) bb).mono ?_
    rintro e w2 ⟨rfl, g2⟩
    have G2 : Aside (Gr w w2) := G1.out.trans g2
    clear g2
    go_wp2_with fail
    refine (rworst_any _ _ _ (HR.out.gr G2.out) bb).mono ?_
    rintro e w3 ⟨rfl, g3⟩
    have G3 : Aside (Gr w w3) := G2.out.trans g3
    clear g3
    go_wp2_with fail
    refine (decideA_any _ _ _ _ _ _ (HR.out.gr G3.out) bb).mono ?_
    rintro e w4 ⟨rfl, g4⟩
    have G4 : Aside (Gr w w4) := G3.out.trans g4
    clear g4
    go_wp2_with fail
    refine (rdecide_any _ _ _ _ _ _ (HR.out.gr G4.out) bb).mono ?_
    rintro e w5 ⟨rfl, g5⟩
    have G5 : Aside (Gr w w5) := G4.out.trans g5
    clear g5
    go_wp2_with fail
    go_ret
    exact ⟨by first | rfl | simp, G5.out⟩
  · have hb := bf hn
    go_enter Try.func3, Try.ntmps3
    go_wp2_with fail
    refine (awake_any _).mono ?_
    rintro e w1 ⟨rfl, g1⟩
    have G1 : Aside (Gr w w1) := g1
    clear g1
    go_wp2_with fail
    refine (few_any _ _ _ _).mono ?_
    rintro e w' ⟨rfl, rfl⟩
    go_wp2_with fail
    go_ret
    exact ⟨by first | rfl | simp, G1.out⟩
end Go.Proofs.Ytkhanjhjcfhhiaa.allocateDecides

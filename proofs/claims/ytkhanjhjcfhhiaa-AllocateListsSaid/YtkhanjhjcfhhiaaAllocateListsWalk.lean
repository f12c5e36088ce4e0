/- The walk of AllocateLists: the Go text returns true. -/
import Derived.Test.YtkhanjhjcfhhiaaAlcAwake
import Derived.Test.YtkhanjhjcfhhiaaAlcF
import Derived.Test.YtkhanjhjcfhhiaaAlcEq
import Derived.Test.YtkhanjhjcfhhiaaR29B
import Derived.Test.YtkhanjhjcfhhiaaR29F
import Derived.Test.YtkhanjhjcfhhiaaAlcOk
namespace Go.Proofs.Ytkhanjhjcfhhiaa.allocateLists
open Go.RowKit Go.Sort
set_option linter.unusedVariables false

theorem pasL_len (l : List Us) (s : Int) (u wk : Bool) (h : (l.length : Int) ≤ 70) : ((Al.pasL l s u wk).length : Int) ≤ 70 := by
  unfold Al.pasL
  split
  · rw [List.length_set]; exact h
  · simp

set_option maxHeartbeats 4000000 in
theorem walk (v0 : Value) (l : List Us) (s : Int) (u wk : Bool) (ws : (Lit.int .i64 s).wf = true) (w : World) (rl : Rows 9 encU w v0 l) (bl : (l.length : Int) ≤ 9223372036854775807) (kl : ∀ A n c, v0 = .slice A n c → n ≤ c ∧ c ≤ 9223372036854775807) (wl : ∀ x ∈ l, okUs x) :
    Calls Try.prog 8 #[v0, .int .i64 s, .bool u, .bool wk] w fun e w' => e = .returned (.bool true) ∧ Gr w w' := by
  obtain ⟨A, c, rfl⟩ := rl.slice
  have HR := Lib.hid rl
  clear rl kl wl ws
  by_cases hn : (l.length : Int) ≤ 70
  · have bb : (l.length : Int) ≤ 4611686018427387904 := by omega
    have LL := pasL_len l s u wk hn
    go_enter Try.func8, Try.ntmps8
    go_wp2_with fail
    refine (awake_any _).mono ?_
    rintro e w1 ⟨rfl, g1⟩
    have G1 : Aside (Gr w w1) := g1
    clear g1
    go_wp2_with fail
    refine (few_any _ _ _ _).mono ?_
    rintro e w' ⟨rfl, rfl⟩
    go_wp2_with fail
    refine (pass_any _ _ _ _ _ _ (HR.out.gr G1.out) bb).mono ?_
    rintro e w2 ⟨va, rfl, ra, g2⟩
    have G2 : Aside (Gr w w2) := G1.out.trans g2
    have RA := Lib.hid ra
    clear g2 ra
    go_wp2_with fail
    refine (rpass_any _ _ _ _ _ _ (HR.out.gr G2.out) bb).mono ?_
    rintro e w3 ⟨vb, rfl, rb, g3⟩
    have G3 : Aside (Gr w w3) := G2.out.trans g3
    have RA3 := Lib.hid (RA.out.gr g3)
    have RB := Lib.hid rb
    clear g3 rb RA
    go_wp2_with fail
    refine (load_any _ _ _ (HR.out.gr G3.out) bb).mono ?_
    rintro e w4 ⟨rfl, g4⟩
    have G4 : Aside (Gr w w4) := G3.out.trans g4
    have RA4 := Lib.hid (RA3.out.gr g4)
    have RB4 := Lib.hid (RB.out.gr g4)
    clear g4 RA3 RB
    go_wp2_with fail
    refine (rload_any _ _ _ (HR.out.gr G4.out) bb).mono ?_
    rintro e w5 ⟨rfl, g5⟩
    have G5 : Aside (Gr w w5) := G4.out.trans g5
    have RA5 := Lib.hid (RA4.out.gr g5)
    have RB5 := Lib.hid (RB4.out.gr g5)
    clear g5 RA4 RB4
    go_wp2_with fail
    refine (check_any _ _ _ (HR.out.gr G5.out) bb).mono ?_
    rintro e w6 ⟨rfl, g6⟩
    have G6 : Aside (Gr w w6) := G5.out.trans g6
    have RA6 := Lib.hid (RA5.out.gr g6)
    have RB6 := Lib.hid (RB5.out.gr g6)
    clear g6 RA5 RB5
    go_wp2_with fail
    refine (rcheck_any _ _ _ (HR.out.gr G6.out) bb).mono ?_
    rintro e w7 ⟨rfl, g7⟩
    have G7 : Aside (Gr w w7) := G6.out.trans g7
    have RA7 := Lib.hid (RA6.out.gr g7)
    have RB7 := Lib.hid (RB6.out.gr g7)
    clear g7 RA6 RB6
    go_wp2_with fail
    refine (same_any _ _ _ _ _ RA7.out RB7.out (by omega)).mono ?_
    rintro e w8 ⟨rfl, g8⟩
    have G8 : Aside (Gr w w8) := G7.out.trans g8
    clear g8
    go_wp2_with fail
    go_ret
    exact ⟨by first | rfl | simp, G8.out⟩
  · have hb := bf hn
    go_enter Try.func8, Try.ntmps8
    go_wp2_with fail
    refine (awake_any _).mono ?_
    rintro e w1 ⟨rfl, g1⟩
    have G1 : Aside (Gr w w1) := g1
    clear g1
    go_wp2_with fail
    refine (few_any _ _ _ _).mono ?_
    rintro e w' ⟨rfl, rfl⟩
    go_wp2_with fail
    go_ret
    exact ⟨by first | rfl | simp, G1.out⟩
end Go.Proofs.Ytkhanjhjcfhhiaa.allocateLists

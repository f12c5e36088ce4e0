/- The walk of AllocateSettles: the Go text returns true. -/
import Derived.Test.YtkhanjhjcfhhiaaAlcAwake
import Derived.Test.YtkhanjhjcfhhiaaAlcJ
import Derived.Test.YtkhanjhjcfhhiaaR29E
import Derived.Test.YtkhanjhjcfhhiaaR29G
import Derived.Test.YtkhanjhjcfhhiaaAlcOk
namespace Go.Proofs.Ytkhanjhjcfhhiaa.allocateSettles
open Go.RowKit Go.Sort
set_option linter.unusedVariables false

theorem joiL_len (l : List Us) (cs : List Cl) (h : cs.length ≤ 70) : ((Al.joiL l cs).length : Int) ≤ 70 := by
  unfold Al.joiL
  split
  · rw [List.length_map]; omega
  · simp

set_option maxHeartbeats 4000000 in
theorem walk (n d lo hi : Int) (v4 : Value) (l : List Us) (v5 : Value) (cs : List Cl) (w1 : (Lit.int .i64 n).wf = true) (w2 : (Lit.int .i64 d).wf = true) (w3 : (Lit.int .i64 lo).wf = true) (w4 : (Lit.int .i64 hi).wf = true) (w : World) (rl : Rows 9 encU w v4 l) (bl : (l.length : Int) ≤ 9223372036854775807) (kl : ∀ A n c, v4 = .slice A n c → n ≤ c ∧ c ≤ 9223372036854775807) (wl : ∀ x ∈ l, okUs x) (rc : Rows 6 encC w v5 cs) (bc : (cs.length : Int) ≤ 9223372036854775807) (kc : ∀ A n c, v5 = .slice A n c → n ≤ c ∧ c ≤ 9223372036854775807) (wc : ∀ x ∈ cs, okCl x) :
    Calls Try.prog 7 #[.int .i64 n, .int .i64 d, .int .i64 lo, .int .i64 hi, v4, v5] w fun e w' => e = .returned (.bool true) ∧ Gr w w' := by
  obtain ⟨A, c, rfl⟩ := rl.slice
  obtain ⟨A1, c1, rfl⟩ := rc.slice
  have HR := Lib.hid rl
  have HC := Lib.hid rc
  clear rl kl wl w1 w2 w3 w4 rc kc wc
  by_cases hn : (l.length : Int) ≤ 70
  · have hbt := bt hn
    by_cases hm : cs.length ≤ 70
    · have bb : (l.length : Int) ≤ 4611686018427387904 := by omega
      have LL := joiL_len l cs hm
      have b2 : decide ((70 : Int) < (cs.length : Int)) = false := bf (by omega)
      have hm2 : cs.length ≤ 1048576 := by omega
      go_enter Try.func7, Try.ntmps7
      go_wp2_with fail
      refine (awake_any _).mono ?_
      rintro e w1 ⟨rfl, g1⟩
      have G1 : Aside (Gr w w1) := g1
      clear g1
      go_wp2_with fail
      refine (few_any _ _ _ _).mono ?_
      rintro e w' ⟨rfl, rfl⟩
      go_wp2_with fail
      refine (settle_any _ _ _ _ _).mono ?_
      rintro e w2 ⟨rfl, g2⟩
      have G2 : Aside (Gr w w2) := G1.out.trans g2
      clear g2
      go_wp2_with fail
      refine (rsettle_any _ _ _ _ _).mono ?_
      rintro e w3 ⟨rfl, g3⟩
      have G3 : Aside (Gr w w3) := G2.out.trans g3
      clear g3
      go_wp2_with fail
      refine (join_any _ _ _ _ _ (HR.out.gr G3.out) (HC.out.gr G3.out) bb hm2).mono ?_
      rintro e w4 ⟨va, rfl, ra, g4⟩
      have G4 : Aside (Gr w w4) := G3.out.trans g4
      have RA := Lib.hid ra
      clear g4 ra
      go_wp2_with fail
      refine (rjoin_any _ _ _ _ _ (HR.out.gr G4.out) (HC.out.gr G4.out) bb hm2).mono ?_
      rintro e w5 ⟨vb, rfl, rb, g5⟩
      have G5 : Aside (Gr w w5) := G4.out.trans g5
      have RA5 := Lib.hid (RA.out.gr g5)
      have RB5 := Lib.hid rb
      clear g5 rb RA
      go_wp2_with fail
      refine (same_any _ _ _ _ _ RA5.out RB5.out (by omega)).mono ?_
      rintro e w8 ⟨rfl, g8⟩
      have G8 : Aside (Gr w w8) := G5.out.trans g8
      clear g8
      go_wp2_with fail
      go_ret
      exact ⟨by first | rfl | simp, G8.out⟩
    · have b2 : decide ((70 : Int) < (cs.length : Int)) = true := bt (by omega)
      go_enter Try.func7, Try.ntmps7
      go_wp2_with fail
      refine (awake_any _).mono ?_
      rintro e w1 ⟨rfl, g1⟩
      have G1 : Aside (Gr w w1) := g1
      clear g1
      go_wp2_with fail
      refine (few_any _ _ _ _).mono ?_
      rintro e w' ⟨rfl, rfl⟩
      go_wp2_with fail
      go_ret
      exact ⟨by first | rfl | simp, G1.out⟩
  · have hb := bf hn
    go_enter Try.func7, Try.ntmps7
    go_wp2_with fail
    refine (awake_any _).mono ?_
    rintro e w1 ⟨rfl, g1⟩
    have G1 : Aside (Gr w w1) := g1
    clear g1
    go_wp2_with fail
    refine (few_any _ _ _ _).mono ?_
    rintro e w' ⟨rfl, rfl⟩
    go_wp2_with fail
    go_ret
    exact ⟨by first | rfl | simp, G1.out⟩
end Go.Proofs.Ytkhanjhjcfhhiaa.allocateSettles

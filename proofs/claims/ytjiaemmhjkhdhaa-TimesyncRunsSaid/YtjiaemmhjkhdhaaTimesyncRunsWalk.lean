/- The walk of TimesyncRuns: the Go text returns true. (Printed in part by mkruns.py.) -/
import Derived.Test.YtjiaemmhjkhdhaaTmsAwake
import Derived.Test.YtjiaemmhjkhdhaaDepA
import Derived.Test.YtjiaemmhjkhdhaaRunC
import Derived.Test.YtjiaemmhjkhdhaaOnePlain
import Derived.Test.YtjiaemmhjkhdhaaRunR
import Derived.Test.YtjiaemmhjkhdhaaSpdA
import Derived.Test.YtjiaemmhjkhdhaaSpdR
import Derived.Test.YtjiaemmhjkhdhaaCloneS
import Derived.Test.YtjiaemmhjkhdhaaCloneY
import Derived.Test.YtjiaemmhjkhdhaaCloneInts
import Derived.Test.YtjiaemmhjkhdhaaEqualInts
import Derived.Test.YtjiaemmhjkhdhaaSameS
import Derived.Test.YtjiaemmhjkhdhaaOkTree
import Derived.Test.YtjiaemmhjkhdhaaHeld
namespace Go.Proofs.Ytjiaemmhjkhdhaa.timesyncRuns
open Go.RowKit Go.Sort
set_option linter.unusedVariables false

/-- rows of structs, met out of a clone's post -/
theorem rows_cloneS {l : List Sy} {w w' : World} {e : Ending} (h : CloneSPost l w e w') : ∃ A C, e = .returned (.slice A l.length C) ∧ (Rows 4 encS w' (.slice A l.length C) l ∧ l.length ≤ C) ∧ Gr w w' := by
  obtain ⟨v, h1, h2, h3⟩ := h
  have hr := Rows.of_owns encS_len h2
  rcases h2.2 with ⟨rfl, h0⟩ | ⟨g, cap, cur, rfl, hx⟩
  · rw [h0]
    exact ⟨_, _, h1, ⟨hr, Nat.le_refl _⟩, h3⟩
  · exact ⟨_, _, h1, ⟨hr, by first | exact hx.2.2.1 | omega⟩, h3⟩
theorem rows_weak {l : List Sy} {n : Nat} {w w' : World} {e : Ending} (h : ∃ A C, e = .returned (.slice A n C) ∧ (Rows 4 encS w' (.slice A n C) l ∧ n ≤ C) ∧ Gr w w') : ∃ v, e = .returned v ∧ Rows 4 encS w' v l ∧ Gr w w' := by
  obtain ⟨A, C, h1, ⟨h2, _⟩, h3⟩ := h
  exact ⟨_, h1, h2, h3⟩
theorem rows_cloneY {l : List Yn} {w w' : World} {e : Ending} (h : CloneYPost l w e w') : ∃ v, e = .returned v ∧ Rows 3 encY w' v l ∧ Gr w w' := by
  obtain ⟨v, h1, h2, h3⟩ := h
  exact ⟨v, h1, Rows.of_owns encY_len h2, h3⟩

theorem dL_big (p : List Int) (h : (p.length : Int) ≤ 9223372036854775807) : ((Dp.dL p).length : Int) ≤ 9223372036854775807 := by
  by_cases hp : Dp.okD p
  · rw [Dp.dL_len hp]; exact h
  · rw [(Dp.d_no hp).2]; simp
theorem run_big (p : List Int) (S : List Sy) (Y : List Yn) (h : (S.length : Int) ≤ 4611686018427387904) : (((Ru.run p S Y).1).length : Int) ≤ 4611686018427387904 := by
  by_cases he : (Ru.run p S Y).2.2 = 0
  · rw [(Ru.one_ok he).2.2.1]; exact h
  · rw [(Ru.one_err he).1]; simp

set_option maxHeartbeats 16000000 in
set_option maxRecDepth 100000 in
theorem walk (u0 u1 : Value) (S : List Sy) (p : List Int) (v1 : Value) (Y : List Yn) (t : Int) (wft : (Lit.int .i64 t).wf = true) (w : World)
    (rS : Rows 4 encS w u0 S) (bS : (S.length : Int) ≤ 9223372036854775807) (kS : ∀ A n c, u0 = .slice A n c → n ≤ c ∧ c ≤ 9223372036854775807) (wS : ∀ x ∈ S, okSy x)
    (rp : Rows 1 encI w u1 p) (bp : (p.length : Int) ≤ 9223372036854775807) (kp : ∀ A n c, u1 = .slice A n c → n ≤ c ∧ c ≤ 9223372036854775807) (wp : ∀ x ∈ p, okI x)
    (rY : Rows 3 encY w v1 Y) (bY : (Y.length : Int) ≤ 9223372036854775807) (kY : ∀ A n c, v1 = .slice A n c → n ≤ c ∧ c ≤ 9223372036854775807) (wY : ∀ x ∈ Y, okYn x) :
    Calls Try.prog 8 #[.agg #[u0, u1], v1, .int .i64 t] w fun e w' => e = .returned (.bool true) ∧ Gr w w' := by
  clear kS wS kp wp kY wY
  obtain ⟨A0, C0, rfl⟩ := rS.slice
  obtain ⟨A1, C1, rfl⟩ := rp.slice
  obtain ⟨A2, C2, rfl⟩ := rY.slice
  obtain ⟨n0, e0⟩ : ∃ n, S.length = n := ⟨_, rfl⟩
  obtain ⟨n1, e1⟩ : ∃ n, p.length = n := ⟨_, rfl⟩
  obtain ⟨n2, e2⟩ : ∃ n, Y.length = n := ⟨_, rfl⟩
  have RS : Hid (Rows 4 encS w (.slice A0 n0 C0) S) := by rw [e0] at rS; exact rS
  have RP : Hid (Rows 1 encI w (.slice A1 n1 C1) p) := by rw [e1] at rp; exact rp
  have RY : Hid (Rows 3 encY w (.slice A2 n2 C2) Y) := by rw [e2] at rY; exact rY
  rw [e0] at bS ⊢
  rw [e1] at bp ⊢
  rw [e2] at bY ⊢
  clear rS rp rY
  have E0 := Lib.hid e0
  have E1 := Lib.hid e1
  have E2 := Lib.hid e2
  clear e0 e1 e2
  by_cases big0 : 40 < n0
  · have z0 : (40 : Int) < (n0 : Int) := by omega
    go_enter Try.func8, Try.ntmps8
    go_wp2_with fail
    refine (awake_any _).mono ?_
    rintro e w1 ⟨rfl, g1⟩
    have x0 := held_keep (p := ⟨w.heap.size, 0, none⟩) (v := .slice A0 n0 C0) g1 (by go_simp)
    have x1 := held_keep (p := ⟨w.heap.size, 1, none⟩) (v := .slice A1 n1 C1) g1 (by go_simp)
    have G1 : Aside (Gr w w1) := (Gr.alloc (Gr.refl w) _).trans g1
    clear g1
    go_wp2_with fail
    go_ret
    exact ⟨rfl, G1.out⟩
  · have z0 : ¬ (40 : Int) < (n0 : Int) := by omega
    by_cases big1 : 40 < n1
    · have z1 : (40 : Int) < (n1 : Int) := by omega
      go_enter Try.func8, Try.ntmps8
      go_wp2_with fail
      refine (awake_any _).mono ?_
      rintro e w1 ⟨rfl, g1⟩
      have x0 := held_keep (p := ⟨w.heap.size, 0, none⟩) (v := .slice A0 n0 C0) g1 (by go_simp)
      have x1 := held_keep (p := ⟨w.heap.size, 1, none⟩) (v := .slice A1 n1 C1) g1 (by go_simp)
      have G1 : Aside (Gr w w1) := (Gr.alloc (Gr.refl w) _).trans g1
      clear g1
      go_wp2_with fail
      go_ret
      exact ⟨rfl, G1.out⟩
    · have z1 : ¬ (40 : Int) < (n1 : Int) := by omega
      by_cases big2 : 40 < n2
      · have z2 : (40 : Int) < (n2 : Int) := by omega
        go_enter Try.func8, Try.ntmps8
        go_wp2_with fail
        refine (awake_any _).mono ?_
        rintro e w1 ⟨rfl, g1⟩
        have x0 := held_keep (p := ⟨w.heap.size, 0, none⟩) (v := .slice A0 n0 C0) g1 (by go_simp)
        have x1 := held_keep (p := ⟨w.heap.size, 1, none⟩) (v := .slice A1 n1 C1) g1 (by go_simp)
        have G1 : Aside (Gr w w1) := (Gr.alloc (Gr.refl w) _).trans g1
        clear g1
        go_wp2_with fail
        go_ret
        exact ⟨rfl, G1.out⟩
      · have z2 : ¬ (40 : Int) < (n2 : Int) := by omega
        have CS := fun W (g : Gr w W) => (cloneCloneS_any _ S W (RS.out.gr g) (by rw [E0.out]; omega)).mono fun e w' h => rows_cloneS h
        have CP := fun W (g : Gr w W) => clone_any _ p W (RP.out.gr g) (by rw [E1.out]; omega)
        have CY := fun W (g : Gr w W) => (cloneCloneY_any _ Y W (RY.out.gr g) (by rw [E2.out]; omega)).mono fun e w' h => rows_cloneY h
        have RUN := fun v1 v2 v3 W h1 h2 h3 => run_any v1 v2 v3 S p Y W h1 h2 h3 (by rw [E0.out]; omega) (by rw [E1.out]; omega) (by rw [E2.out]; omega)
        have RRUN := fun v1 v2 v3 W h1 h2 h3 => rrun_any v1 v2 v3 S p Y W h1 h2 h3 (by rw [E0.out]; omega) (by rw [E1.out]; omega) (by rw [E2.out]; omega)
        rw [E0.out] at CS
        go_enter Try.func8, Try.ntmps8
        go_wp2_with fail
        refine (awake_any _).mono ?_
        rintro e w1 ⟨rfl, g1⟩
        have x0 := held_keep (p := ⟨w.heap.size, 0, none⟩) (v := .slice A0 n0 C0) g1 (by go_simp)
        have x1 := held_keep (p := ⟨w.heap.size, 1, none⟩) (v := .slice A1 n1 C1) g1 (by go_simp)
        have G1 : Aside (Gr w w1) := (Gr.alloc (Gr.refl w) _).trans g1
        clear g1
        go_wp2_with fail
        refine (CP _ G1.out).mono ?_
        rintro e w2 ⟨a1, rfl, q1, g2⟩
        have x0 := held_keep g2 x0
        have x1 := held_keep g2 x1
        have G2 : Aside (Gr w w2) := G1.out.trans g2
        clear g2
        go_wp2_with fail
        refine (depths_any _ p _ q1 (by rw [E1.out]; omega)).mono ?_
        rintro e w3 ⟨aD, rfl, qD, g3⟩
        have QD := Lib.hid qD
        have x0 := held_keep g3 x0
        have x1 := held_keep g3 x1
        have G3 : Aside (Gr w w3) := G2.out.trans g3
        clear g3 q1 qD
        go_wp2_with fail
        refine (rdepths_any _ p _ (RP.out.gr G3.out) (by rw [E1.out]; omega)).mono ?_
        rintro e w4 ⟨aE, rfl, qE, g4⟩
        have QD : Hid (Rows 1 encI w4 aD (Dp.dL p)) := QD.out.gr g4
        have QE := Lib.hid qE
        have x0 := held_keep g4 x0
        have x1 := held_keep g4 x1
        have G4 : Aside (Gr w w4) := G3.out.trans g4
        have KEEP1 : Aside (∀ W, Gr w4 W → (Gr w4 W ∧ W.cell? ⟨w.heap.size, 0, none⟩ = some (.slice A0 n0 C0) ∧ W.cell? ⟨w.heap.size, 1, none⟩ = some (.slice A1 n1 C1))) := fun W g => ⟨g, held_keep g x0, held_keep g x1⟩
        clear g4 qE
        generalize hr : Ru.run p S Y = r at RUN RRUN
        have HR := Lib.hid hr
        clear hr
        go_wp2_with fail
        apply wp_join4 (F := fun W v1 v2 v3 v4 => Gr w4 W ∧ Rows 4 encS W v4 r.1)
        case h =>
          go_region_held3 (fun W => Gr w4 W ∧ W.cell? ⟨w.heap.size, 0, none⟩ = some (.slice A0 n0 C0) ∧ W.cell? ⟨w.heap.size, 1, none⟩ = some (.slice A1 n1 C1)) ((refine KEEP1.out _ ?_; (repeat (first | assumption | exact And.left (by assumption) | exact Gr.refl _ | refine Gr.drew ?_ | refine Gr.alloc ?_ _ | refine Gr.setCell ?_ (by first | exact Nat.le_refl _ | omega) _ | refine Gr.trans ?_ (by assumption)))))
            ((first
              | (go_at_call 27; refine ((CS _ (G4.out.trans (And.left (by assumption)))).mono fun e w' h => (rows_weak h)).mono ?_; rintro e w9 ⟨a1, rfl, Q1, k1⟩)
              | (go_at_call 22; refine (CP _ (G4.out.trans (And.left (by assumption)))).mono ?_; rintro e w9 ⟨a2, rfl, Q2, k2⟩)
              | (go_at_call 28; refine (CY _ (G4.out.trans (And.left (by assumption)))).mono ?_; rintro e w9 ⟨a3, rfl, Q3, k3⟩)
              | (go_at_call 26; refine (RUN _ _ _ _ (by (repeat (first | assumption | refine Rows.gr ?_ (by assumption)))) (by (repeat (first | assumption | refine Rows.gr ?_ (by assumption)))) (by (repeat (first | assumption | refine Rows.gr ?_ (by assumption))))).mono ?_; rintro e w9 ⟨a4, rfl, Q4, k4⟩)))
          all_goals exact ⟨rfl, a1, a2, a3, a4, rfl, (‹Gr w4 _ ∧ _›).1, Q4⟩
        case k =>
          intro b1 b2 b3 b4 w5 hF
          obtain ⟨g5, R5⟩ := hF
          have R5 := Lib.hid R5
          have QD : Hid (Rows 1 encI w5 aD (Dp.dL p)) := QD.out.gr g5
          have QE : Hid (Rows 1 encI w5 aE (Dp.dL p)) := QE.out.gr g5
          have y0 := held_keep g5 x0
          have y1 := held_keep g5 x1
          have G5 : Aside (Gr w w5) := G4.out.trans g5
          clear x0 x1 g5 KEEP1
          go_wp2_with fail
          refine (RRUN _ _ _ _ (RS.out.gr G5.out) (RP.out.gr G5.out) (RY.out.gr G5.out)).mono ?_
          rintro e w6 ⟨a6, rfl, q6, g6⟩
          have R6 := Lib.hid q6
          have R5 : Hid (Rows 4 encS w6 b4 r.1) := R5.out.gr g6
          have QD : Hid (Rows 1 encI w6 aD (Dp.dL p)) := QD.out.gr g6
          have QE : Hid (Rows 1 encI w6 aE (Dp.dL p)) := QE.out.gr g6
          have x0 := held_keep g6 y0
          have x1 := held_keep g6 y1
          have G6 : Aside (Gr w w6) := G5.out.trans g6
          clear y0 y1 g6 q6
          go_wp2_with fail
          refine (CS _ G6.out).mono ?_
          rintro e w7 ⟨A7, C7, rfl, ⟨q7, c7⟩, g7⟩
          have R5 : Hid (Rows 4 encS w7 b4 r.1) := R5.out.gr g7
          have R6 : Hid (Rows 4 encS w7 a6 r.1) := R6.out.gr g7
          have QD : Hid (Rows 1 encI w7 aD (Dp.dL p)) := QD.out.gr g7
          have QE : Hid (Rows 1 encI w7 aE (Dp.dL p)) := QE.out.gr g7
          have x0 := held_keep g7 x0
          have x1 := held_keep g7 x1
          have G7 : Aside (Gr w w7) := G6.out.trans g7
          clear g7
          go_wp2_with fail
          refine (spread_any _ S t _ q7 (by rw [E0.out]; omega) (by intro A m c he; simp only [Value.slice.injEq] at he; obtain ⟨_, rfl, rfl⟩ := he; exact c7)).mono ?_
          rintro e w8 ⟨rfl, g8⟩
          have R5 : Hid (Rows 4 encS w8 b4 r.1) := R5.out.gr g8
          have R6 : Hid (Rows 4 encS w8 a6 r.1) := R6.out.gr g8
          have QD : Hid (Rows 1 encI w8 aD (Dp.dL p)) := QD.out.gr g8
          have QE : Hid (Rows 1 encI w8 aE (Dp.dL p)) := QE.out.gr g8
          have x0 := held_keep g8 x0
          have x1 := held_keep g8 x1
          have G8 : Aside (Gr w w8) := G7.out.trans g8
          clear g8 q7
          go_wp2_with fail
          refine (rspread_any _ S t _ (RS.out.gr G8.out) (by rw [E0.out]; omega)).mono ?_
          rintro e w9 ⟨rfl, g9⟩
          have R5 : Hid (Rows 4 encS w9 b4 r.1) := R5.out.gr g9
          have R6 : Hid (Rows 4 encS w9 a6 r.1) := R6.out.gr g9
          have QD : Hid (Rows 1 encI w9 aD (Dp.dL p)) := QD.out.gr g9
          have QE : Hid (Rows 1 encI w9 aE (Dp.dL p)) := QE.out.gr g9
          have G9 : Aside (Gr w w9) := G8.out.trans g9
          clear g9 x0 x1
          have EQI := (equal_any _ _ _ _ w9 QD.out QE.out (dL_big _ (by rw [E1.out]; omega)) (dL_big _ (by rw [E1.out]; omega))).mono fun e w' h => (⟨h.1.trans (ret_bool (decide_eq_true rfl)), h.2⟩ : e = .returned (.bool true) ∧ Gr w9 w')
          go_wp2_with fail
          refine EQI.mono ?_
          rintro e w10 ⟨rfl, g10⟩
          have R5 : Hid (Rows 4 encS w10 b4 r.1) := R5.out.gr g10
          have R6 : Hid (Rows 4 encS w10 a6 r.1) := R6.out.gr g10
          have G10 : Aside (Gr w w10) := G9.out.trans g10
          clear g10
          go_wp2_with fail
          refine ((sameS_any _ _ _ _ w10 R5.out R6.out (HR.out ▸ run_big _ _ _ (by rw [E0.out]; omega))).mono fun e w' h => (⟨h.1.trans (ret_bool (decide_eq_true rfl)), h.2⟩ : e = .returned (.bool true) ∧ Gr w10 w')).mono ?_
          rintro e w11 ⟨rfl, g11⟩
          have G11 : Aside (Gr w w11) := G10.out.trans g11
          go_wp2_with fail
          go_ret
          exact ⟨rfl, G11.out⟩
end Go.Proofs.Ytjiaemmhjkhdhaa.timesyncRuns

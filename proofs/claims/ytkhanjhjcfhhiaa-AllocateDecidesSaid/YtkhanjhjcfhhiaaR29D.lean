/- The contracts of the reference's Decide. -/
import Derived.Test.YtkhanjhjcfhhiaaR29C
import Derived.Test.YtkhanjhjcfhhiaaAlcE
namespace Go.Proofs.Ytkhanjhjcfhhiaa
open Go.RowKit Go.Sort
set_option linter.unusedVariables false

/-- a decision, as facts on numbers -/
def Dec (n bk lo hi us pa : Int) (w : Bool) (K C : Int) : Prop :=
  (n < lo ∧ K = 1 ∧ C = min 8 (lo - n)) ∨
  (¬ n < lo ∧ n = 0 ∧ 0 < bk ∧ 0 < hi ∧ K = 1 ∧ C = 1) ∨
  (¬ n < lo ∧ n = 0 ∧ ¬ (0 < bk ∧ 0 < hi) ∧ K = 0 ∧ C = 0) ∨
  (¬ n < lo ∧ n ≠ 0 ∧ 4 * n < bk ∧ n < hi ∧ K = 1 ∧ C = min (min 8 (hi - n)) ((bk - 4 * n + 3) / 4)) ∨
  (¬ n < lo ∧ n ≠ 0 ∧ ¬ (4 * n < bk ∧ n < hi) ∧ pa < 8 * n ∧ K = 0 ∧ C = 0) ∨
  (¬ n < lo ∧ n ≠ 0 ∧ ¬ (4 * n < bk ∧ n < hi) ∧ ¬ pa < 8 * n ∧ 3 * pa ≤ 4 * us ∧ n < hi ∧ K = 1 ∧ C = 1) ∨
  (¬ n < lo ∧ n ≠ 0 ∧ ¬ (4 * n < bk ∧ n < hi) ∧ ¬ pa < 8 * n ∧ ¬ (3 * pa ≤ 4 * us ∧ n < hi) ∧ 4 * us < pa ∧ lo < n ∧ 1 < n ∧ K = 2 ∧ C = 1) ∨
  (¬ n < lo ∧ n ≠ 0 ∧ ¬ (4 * n < bk ∧ n < hi) ∧ ¬ pa < 8 * n ∧ ¬ (3 * pa ≤ 4 * us ∧ n < hi) ∧ ¬ (4 * us < pa ∧ lo < n ∧ 1 < n) ∧ K = (if w then 3 else 0) ∧ C = (if w then 1 else 0))
theorem dec_all (x : Fx) : Dec x.n x.bk x.lo x.hi x.us x.pa x.w (Al.dk x) (Al.dc x) := by
  have e := Al.dec_eq x
  generalize Al.dk x = K at e ⊢
  generalize Al.dc x = C at e ⊢
  unfold Dec
  cases hw : x.w
  all_goals
    rw [hw] at e
    first | simp only [Bool.false_eq_true, if_false] at e | simp only [if_true] at e
    repeat' split at e
    all_goals
      simp only [Prod.mk.injEq] at e
      obtain ⟨rfl, rfl⟩ := e
      first | (refine Or.inl ?_; omega) | (refine (Or.inr (Or.inl ?_)); omega) | (refine (Or.inr (Or.inr (Or.inl ?_))); omega) | (refine (Or.inr (Or.inr (Or.inr (Or.inl ?_)))); omega) | (refine (Or.inr (Or.inr (Or.inr (Or.inr (Or.inl ?_))))); omega) | (refine (Or.inr (Or.inr (Or.inr (Or.inr (Or.inr (Or.inl ?_)))))); omega) | (refine (Or.inr (Or.inr (Or.inr (Or.inr (Or.inr (Or.inr (Or.inl ?_))))))); omega) | ((refine (Or.inr (Or.inr (Or.inr (Or.inr (Or.inr (Or.inr (Or.inr ⟨by omega, by omega, by omega, by omega, by omega, by omega, ?_, ?_⟩)))))))) <;> simp_all)
set_option maxHeartbeats 8000000 in
set_option maxRecDepth 100000 in
theorem rdecide_ok (v : Value) (l : List Us) (bk lo hi : Int) (w : World) (h : Rows 9 encU w v l) (hbig : (l.length : Int) ≤ 4611686018427387904) (hc : Al.chk l = 0) (hb : 0 ≤ bk ∧ bk ≤ 1048576) (hl : Al.okL lo hi) :
    Calls Try.prog 15 #[v, .int .i64 bk, .int .i64 lo, .int .i64 hi] w fun e w' => e = .returned (.tuple #[.int .i64 (Al.dk (Al.fx l bk lo hi)), .int .i64 (Al.dc (Al.fx l bk lo hi)), .int .i64 0]) ∧ Gr w w' := by
  have C1 := rcheck_any v l w h hbig
  have C2 : Aside (∀ W, Gr w W → Calls Try.prog 31 #[v] W fun e w' => e = .returned (.tuple #[.int .i64 (Al.ldU l), .int .i64 (Al.ldP l)]) ∧ Gr W w') := fun W g => rload_any v l W (h.gr (w := W) g) hbig
  have C3 : Aside (∀ W, Gr w W → Calls Try.prog 13 #[v] W fun e w' => e = .returned (.tuple #[.int .i64 (Al.worN l), .bool (Al.worB l)]) ∧ Gr W w') := fun W g => rworst_any v l W (h.gr (w := W) g) hbig
  have FB := fx_bd hc hb hl
  have DE := Lib.hid (dec_all (Al.fx l bk lo hi))
  have u0 : 0 ≤ Al.ldU l := FB.u0
  have u1 : Al.ldU l ≤ 4096 := FB.u1
  have p0 : 0 ≤ Al.ldP l := FB.p0
  have p1 : Al.ldP l ≤ 4096 := FB.p1
  have n0 : 0 ≤ (l.length : Int) := FB.n0
  have n1 : (l.length : Int) ≤ 64 := FB.n1
  have bl := bt hl
  obtain ⟨⟨l0, l1⟩, l2⟩ := hl
  obtain ⟨b0, b1⟩ := hb
  obtain ⟨A, c, rfl⟩ := h.slice
  rw [hc] at C1
  have f1 : decide (bk < 0) = false := bf (by omega)
  have f2 : decide (1048576 < bk) = false := bf (by omega)
  clear h hc FB
  generalize Al.dk (Al.fx l bk lo hi) = K at DE ⊢
  generalize Al.dc (Al.fx l bk lo hi) = C at DE ⊢
  simp only [Al.fx] at DE
  generalize Al.ldU l = us at *
  generalize Al.ldP l = pa at *
  generalize Al.worN l = wn at *
  generalize l.length = n at *
  cases hw : Al.worB l
  all_goals
    rw [hw] at C3 DE
    clear hw
    go_enter Try.func15, Try.ntmps15
    go_wp2_with fail
    refine C1.mono ?_
    rintro e w1 ⟨rfl, g1⟩
    clear C1
    have G1 : Aside (Gr w w1) := g1
    go_wp2_with (first | (go_at_call 42; refine (rlimits_any _ _ _).mono ?_; rintro e w9 ⟨rfl, e9⟩; rw [e9]; clear e9 w9))
    refine (C2.out w1 G1.out).mono ?_
    rintro e w2 ⟨rfl, g2⟩
    have G2 : Aside (Gr w w2) := G1.out.trans g2
    clear g1 g2
    go_wp2_with fail
    all_goals try (
      refine (C3.out w2 G2.out).mono ?_
      rintro e w3 ⟨rfl, g3⟩
      go_wp2_with fail)
    all_goals
      go_ret3
      first | have zz := eq_of_beq (by assumption : ((n : Int) == 0) = true) | have zz := ne_of_beq_false (by assumption : ((n : Int) == 0) = false) | skip
      have D := DE.out
      unfold Dec at D
      simp only [Bool.false_eq_true, if_false, if_true] at D
      clear DE C2 C3
      have hgg := G2.out
      rcases D with D | D | D | D | D | D | D | D
      all_goals first | (exfalso; omega) | exact ⟨ret_int3 (by omega) (by omega) rfl, by repeat (first | (with_reducible exact Gr.refl _) | (with_reducible assumption) | (with_reducible refine Gr.alloc ?_ _) | (with_reducible refine Gr.drewN ?_ _) | (with_reducible refine Gr.drew ?_) | (with_reducible refine Gr.grown ?_ _ _) | (with_reducible refine Gr.regrown ?_ _ _) | (with_reducible refine Gr.setCell ?_ (by first | omega | (simp; omega) | simp) _) | (with_reducible refine Gr.trans ?_ (by with_reducible assumption)))⟩

set_option maxHeartbeats 4000000 in
set_option maxRecDepth 100000 in
theorem rdecide_err (v : Value) (l : List Us) (bk lo hi : Int) (w : World) (h : Rows 9 encU w v l) (hbig : (l.length : Int) ≤ 4611686018427387904) (he : ¬ Al.decE l bk lo hi = 0) :
    Calls Try.prog 15 #[v, .int .i64 bk, .int .i64 lo, .int .i64 hi] w fun e w' => e = .returned (.tuple #[.int .i64 (Al.decK l bk lo hi), .int .i64 (Al.decC l bk lo hi), .int .i64 (Al.decE l bk lo hi)]) ∧ Gr w w' := by
  have C1 := rcheck_any v l w h hbig
  have K : Hid (Al.decK l bk lo hi = 0 ∧ Al.decC l bk lo hi = 0) := (show _ ∧ _ from ⟨if_neg he, if_neg he⟩)
  rcases Al.chk_cases l with hc | hc
  · have E : Hid (Al.decE l bk lo hi = 2) := by
      show _ = _
      unfold Al.decE at he ⊢
      rw [if_pos hc] at he ⊢
      split
      · rename_i hq; rw [if_pos hq] at he; exact absurd rfl he
      · rfl
    have E2 : ¬ ((0 ≤ bk ∧ bk ≤ 1048576) ∧ Al.okL lo hi) := fun hq => he (by unfold Al.decE; rw [if_pos hc, if_pos hq])
    rw [hc] at C1
    clear h hbig hc he
    by_cases hb : 0 ≤ bk ∧ bk ≤ 1048576
    · have f1 : decide (bk < 0) = false := bf (by omega)
      have f2 : decide (1048576 < bk) = false := bf (by omega)
      have b2 := bf (fun hq => E2 ⟨hb, hq⟩)
      clear E2 hb
      go_enter Try.func15, Try.ntmps15
      go_wp2_with fail
      refine C1.mono ?_
      rintro e w1 ⟨rfl, g1⟩
      clear C1
      go_wp2_with (first | (go_at_call 42; refine (rlimits_any _ _ _).mono ?_; rintro e w9 ⟨rfl, e9⟩; rw [e9]; clear e9 w9))
      go_ret3
      exact ⟨ret_int3 K.out.1.symm K.out.2.symm E.out.symm, by repeat (first | (with_reducible exact Gr.refl _) | (with_reducible assumption) | (with_reducible refine Gr.alloc ?_ _) | (with_reducible refine Gr.drewN ?_ _) | (with_reducible refine Gr.drew ?_) | (with_reducible refine Gr.grown ?_ _ _) | (with_reducible refine Gr.regrown ?_ _ _) | (with_reducible refine Gr.setCell ?_ (by first | omega | (simp; omega) | simp) _) | (with_reducible refine Gr.trans ?_ (by with_reducible assumption)))⟩
    · clear E2
      by_cases hb0 : bk < 0
      · have f1 := bt hb0
        clear hb
        go_enter Try.func15, Try.ntmps15
        go_wp2_with fail
        refine C1.mono ?_
        rintro e w1 ⟨rfl, g1⟩
        clear C1
        go_wp2_with fail
        go_ret3
        exact ⟨ret_int3 K.out.1.symm K.out.2.symm E.out.symm, by repeat (first | (with_reducible exact Gr.refl _) | (with_reducible assumption) | (with_reducible refine Gr.alloc ?_ _) | (with_reducible refine Gr.drewN ?_ _) | (with_reducible refine Gr.drew ?_) | (with_reducible refine Gr.grown ?_ _ _) | (with_reducible refine Gr.regrown ?_ _ _) | (with_reducible refine Gr.setCell ?_ (by first | omega | (simp; omega) | simp) _) | (with_reducible refine Gr.trans ?_ (by with_reducible assumption)))⟩
      · have f1 := bf hb0
        have f2 : decide (1048576 < bk) = true := bt (by omega)
        clear hb
        go_enter Try.func15, Try.ntmps15
        go_wp2_with fail
        refine C1.mono ?_
        rintro e w1 ⟨rfl, g1⟩
        clear C1
        go_wp2_with fail
        go_ret3
        exact ⟨ret_int3 K.out.1.symm K.out.2.symm E.out.symm, by repeat (first | (with_reducible exact Gr.refl _) | (with_reducible assumption) | (with_reducible refine Gr.alloc ?_ _) | (with_reducible refine Gr.drewN ?_ _) | (with_reducible refine Gr.drew ?_) | (with_reducible refine Gr.grown ?_ _ _) | (with_reducible refine Gr.regrown ?_ _ _) | (with_reducible refine Gr.setCell ?_ (by first | omega | (simp; omega) | simp) _) | (with_reducible refine Gr.trans ?_ (by with_reducible assumption)))⟩
  · have E : Hid (Al.decE l bk lo hi = 1) := (show _ = _ from if_neg (by simpa using hc))
    clear h hbig he
    go_enter Try.func15, Try.ntmps15
    go_wp2_with fail
    refine C1.mono ?_
    rintro e w1 ⟨rfl, g1⟩
    clear C1
    go_wp2_with fail
    go_ret3
    exact ⟨ret_int3 K.out.1.symm K.out.2.symm E.out.symm, by repeat (first | (with_reducible exact Gr.refl _) | (with_reducible assumption) | (with_reducible refine Gr.alloc ?_ _) | (with_reducible refine Gr.drewN ?_ _) | (with_reducible refine Gr.drew ?_) | (with_reducible refine Gr.grown ?_ _ _) | (with_reducible refine Gr.regrown ?_ _ _) | (with_reducible refine Gr.setCell ?_ (by first | omega | (simp; omega) | simp) _) | (with_reducible refine Gr.trans ?_ (by with_reducible assumption)))⟩
theorem rdecide_any (v : Value) (l : List Us) (bk lo hi : Int) (w : World) (h : Rows 9 encU w v l) (hbig : (l.length : Int) ≤ 4611686018427387904) :
    Calls Try.prog 15 #[v, .int .i64 bk, .int .i64 lo, .int .i64 hi] w fun e w' => e = .returned (.tuple #[.int .i64 (Al.decK l bk lo hi), .int .i64 (Al.decC l bk lo hi), .int .i64 (Al.decE l bk lo hi)]) ∧ Gr w w' := by
  by_cases he : Al.decE l bk lo hi = 0
  · have e1 : Al.decK l bk lo hi = Al.dk (Al.fx l bk lo hi) := if_pos he
    have e2 : Al.decC l bk lo hi = Al.dc (Al.fx l bk lo hi) := if_pos he
    rw [e1, e2, he]
    unfold Al.decE at he
    split at he
    · split at he
      · rename_i hc hq
        exact rdecide_ok v l bk lo hi w h hbig hc hq.1 hq.2
      · exact absurd he (by decide)
    · exact absurd he (by decide)
  · exact rdecide_err v l bk lo hi w h hbig he

end Go.Proofs.Ytkhanjhjcfhhiaa

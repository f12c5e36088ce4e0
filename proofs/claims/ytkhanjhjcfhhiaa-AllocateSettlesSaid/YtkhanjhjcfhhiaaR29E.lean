/- The contract of the reference's Settle. -/
import Derived.Test.YtkhanjhjcfhhiaaR29B
import Derived.Test.YtkhanjhjcfhhiaaAlcE
namespace Go.Proofs.Ytkhanjhjcfhhiaa
open Go.RowKit Go.Sort
set_option linter.unusedVariables false

set_option maxHeartbeats 4000000 in
set_option maxRecDepth 100000 in
theorem rsettle_any (n d lo hi : Int) (w : World) :
    Calls Try.prog 24 #[.int .i64 n, .int .i64 d, .int .i64 lo, .int .i64 hi] w fun e w' => e = .returned (.tuple #[.int .i64 (Al.setN n d lo hi), .int .i64 (Al.setE n d lo hi)]) ∧ Gr w w' := by
  by_cases h : Al.okS n d lo hi
  · have S : Hid (Al.setN n d lo hi = Al.set_ n d lo hi ∧ Al.setE n d lo hi = 0) := (show _ ∧ _ from ⟨if_pos h, if_pos h⟩)
    have D0 : Aside (Al.Dom n d lo hi) := Al.okS_dom h
    have b1 := bt h.1
    have H := Lib.hid h
    obtain ⟨h1, h2, h3⟩ := h
    have q1 : decide (n < 0) = false := bf (by omega)
    have q2 : decide (64 < n) = false := bf (by omega)
    have q3 : decide (d < 0) = false := bf (by omega)
    have q4 : decide (1048576 < d) = false := bf (by omega)
    clear h1 h2 h3
    go_enter Try.func24, Try.ntmps24
    go_wp2_with (first | (go_at_call 42; refine (rlimits_any _ _ _).mono ?_; rintro e w9 ⟨rfl, e9⟩; rw [e9]; clear e9 w9))
    go_loopg [0] (Al.mu n d lo hi) (fun gg s0 wr => ∃ m : Int, Al.mu m d lo hi ≤ gg ∧ s0 = .int .i64 m ∧ Aside (Al.Dom m d lo hi) ∧ Aside (Al.set_ m d lo hi = Al.set_ n d lo hi) ∧ Aside (Gr w wr))
    case atStart => exact ⟨n, Nat.le_refl _, rfl, D0.out, rfl, Gr.refl _⟩
    case round =>
      obtain ⟨m, hgg, rfl, D, E, G⟩ := hrel
      have m0 := D.out.n0
      have m1 := D.out.n1
      have d0 := D.out.d0
      have d1 := H.out.2.2.2
      have l0 := D.out.l
      unfold Al.okL at l0
      obtain ⟨⟨l0, l1⟩, l2⟩ := l0
      have e0 : 0 ≤ min d m := by omega
      have e1 : min d m ≤ 64 := by omega
      have GO : Aside (Al.dk (Al.sx m d lo hi) = 1 ∨ Al.dk (Al.sx m d lo hi) = 2 → Al.Dom (Al.nx m d lo hi) d lo hi ∧ Al.mu (Al.nx m d lo hi) d lo hi < Al.mu m d lo hi ∧ Al.set_ (Al.nx m d lo hi) d lo hi = Al.set_ n d lo hi) := fun hs => ⟨(Al.nx_dom D.out hs).1, (Al.nx_dom D.out hs).2.1, (Al.set_step D.out hs).trans E.out⟩
      have NX : Aside (Al.nx m d lo hi = if Al.dk (Al.sx m d lo hi) = 1 then m + Al.dc (Al.sx m d lo hi) else if Al.dk (Al.sx m d lo hi) = 2 then m - Al.dc (Al.sx m d lo hi) else m) := rfl
      have ST := Lib.hid (fun hs : ¬ (Al.dk (Al.sx m d lo hi) = 1 ∨ Al.dk (Al.sx m d lo hi) = 2) => (Al.set_stop hs).symm.trans E.out)
      have SE := Al.step_eq (n := m) (d := d) (lo := lo) (hi := hi) m0 l0
      obtain ⟨q, hq⟩ : ∃ q, min d m = q := ⟨_, rfl⟩
      rw [hq] at SE e0 e1
      have HQ := Lib.hid hq
      generalize Al.dk (Al.sx m d lo hi) = K at *
      generalize Al.dc (Al.sx m d lo hi) = C at *
      by_cases c1 : m < lo
      · rw [if_pos c1] at SE
        simp only [Prod.mk.injEq] at SE
        obtain ⟨rfl, rfl⟩ := SE
        have N : Hid (Al.nx m d lo hi = m + min 8 (lo - m)) := (show _ = _ by rw [NX.out]; rfl)
        have L := Lib.hid (GO.out (.inl rfl))
        have L2 := L.out.2.1
        go_wp2_with fail
        all_goals
          go_roundg (Al.mu (Al.nx m d lo hi) d lo hi)
          case measure => omega
          case rel => exact ⟨Al.nx m d lo hi, Nat.le_refl _, (by have e := N.out; rw [e]), L.out.1, L.out.2.2, G.out⟩
      · rw [if_neg c1] at SE
        by_cases c2 : 0 < m ∧ 3 * m ≤ 4 * q ∧ m < hi
        · rw [if_pos c2] at SE
          simp only [Prod.mk.injEq] at SE
          obtain ⟨rfl, rfl⟩ := SE
          obtain ⟨c2, c3, c4⟩ := c2
          have N : Hid (Al.nx m d lo hi = m + 1) := (show _ = _ by rw [NX.out]; rfl)
          have L := Lib.hid (GO.out (.inl rfl))
          have L2 := L.out.2.1
          go_wp2_with fail
          go_roundg (Al.mu (Al.nx m d lo hi) d lo hi)
          case measure => omega
          case rel => exact ⟨Al.nx m d lo hi, Nat.le_refl _, (by have e := N.out; rw [e]), L.out.1, L.out.2.2, G.out⟩
        · rw [if_neg c2] at SE
          by_cases c3 : 4 * q < m ∧ lo < m ∧ 1 < m
          · rw [if_pos c3] at SE
            simp only [Prod.mk.injEq] at SE
            obtain ⟨rfl, rfl⟩ := SE
            obtain ⟨c3, c4, c5⟩ := c3
            have N : Hid (Al.nx m d lo hi = m - 1) := (show _ = _ by rw [NX.out]; rfl)
            have L := Lib.hid (GO.out (.inr rfl))
            have L2 := L.out.2.1
            have c6 : ¬ 3 * m ≤ 4 * q := by omega
            have c7 := bf c6
            have c0 : 0 < m := by omega
            have LL := Lib.hid L2
            clear c2 c6 GO NX ST L2 HQ
            go_wp2_with fail
            have L2 := LL.out
            clear hq LL
            go_roundg (Al.mu (Al.nx m d lo hi) d lo hi)
            case measure => omega
            case rel => exact ⟨Al.nx m d lo hi, Nat.le_refl _, (by have e := N.out; rw [e]), L.out.1, L.out.2.2, G.out⟩
          · rw [if_neg c3] at SE
            simp only [Prod.mk.injEq] at SE
            obtain ⟨rfl, rfl⟩ := SE
            have N := Lib.hid (ST.out (by decide))
            clear GO NX ST
            have q0 : q ≤ m := by have := HQ.out; omega
            by_cases p0 : 0 < m
            · by_cases p1 : 3 * m ≤ 4 * q
              · have p2 : hi ≤ m := by omega
                have p2' := bf (show ¬ m < hi by omega)
                have p3 := bf (show ¬ 4 * q < m by omega)
                clear c2 c3
                go_wp2_with fail
                go_ret2
                exact ⟨ret_int2 (N.out.trans S.out.1.symm) S.out.2.symm, G.out⟩
              · have p1' := bf p1
                by_cases r0 : 4 * q < m
                · by_cases r1 : lo < m
                  · have r2 := bf (show ¬ 1 < m by omega)
                    clear c2 c3 p1
                    go_wp2_with fail
                    go_ret2
                    exact ⟨ret_int2 (N.out.trans S.out.1.symm) S.out.2.symm, G.out⟩
                  · have r2 := bf r1
                    clear c2 c3 p1
                    go_wp2_with fail
                    go_ret2
                    exact ⟨ret_int2 (N.out.trans S.out.1.symm) S.out.2.symm, G.out⟩
                · have r2 := bf r0
                  clear c2 c3 p1
                  go_wp2_with fail
                  go_ret2
                  exact ⟨ret_int2 (N.out.trans S.out.1.symm) S.out.2.symm, G.out⟩
            · have p0' := bf p0
              have p3 := bf (show ¬ 4 * q < m by omega)
              clear c2 c3
              go_wp2_with fail
              go_ret2
              exact ⟨ret_int2 (N.out.trans S.out.1.symm) S.out.2.symm, G.out⟩
  · have S : Hid (Al.setN n d lo hi = 0 ∧ Al.setE n d lo hi = 2) := (show _ ∧ _ from ⟨if_neg h, if_neg h⟩)
    by_cases h1 : Al.okL lo hi
    · have b1 := bt h1
      have hh : ¬ ((0 ≤ n ∧ n ≤ 64) ∧ (0 ≤ d ∧ d ≤ 1048576)) := fun k => h ⟨h1, k.1, k.2⟩
      clear h h1
      go_enter Try.func24, Try.ntmps24
      go_wp2_with (first | (go_at_call 42; refine (rlimits_any _ _ _).mono ?_; rintro e w9 ⟨rfl, e9⟩; rw [e9]; clear e9 w9))
      all_goals first | (go_ret2; exact ⟨ret_int2 S.out.1.symm S.out.2.symm, by repeat (first | (with_reducible exact Gr.refl _) | (with_reducible assumption) | (with_reducible refine Gr.alloc ?_ _) | (with_reducible refine Gr.drewN ?_ _) | (with_reducible refine Gr.drew ?_) | (with_reducible refine Gr.grown ?_ _ _) | (with_reducible refine Gr.regrown ?_ _ _) | (with_reducible refine Gr.setCell ?_ (by first | omega | (simp; omega) | simp) _) | (with_reducible refine Gr.trans ?_ (by with_reducible assumption)))⟩) | (exfalso; omega)
    · have b1 := bf h1
      clear h h1
      go_enter Try.func24, Try.ntmps24
      go_wp2_with (first | (go_at_call 42; refine (rlimits_any _ _ _).mono ?_; rintro e w9 ⟨rfl, e9⟩; rw [e9]; clear e9 w9))
      go_ret2
      exact ⟨ret_int2 S.out.1.symm S.out.2.symm, by repeat (first | (with_reducible exact Gr.refl _) | (with_reducible assumption) | (with_reducible refine Gr.alloc ?_ _) | (with_reducible refine Gr.drewN ?_ _) | (with_reducible refine Gr.drew ?_) | (with_reducible refine Gr.grown ?_ _ _) | (with_reducible refine Gr.regrown ?_ _ _) | (with_reducible refine Gr.setCell ?_ (by first | omega | (simp; omega) | simp) _) | (with_reducible refine Gr.trans ?_ (by with_reducible assumption)))⟩
end Go.Proofs.Ytkhanjhjcfhhiaa

/- The walk of AllocateNoSwing: the Go text returns true. -/
import Derived.Test.YtkhanjhjcfhhiaaAlcCells
import Derived.Lib.Hide
namespace Go.Proofs.Ytkhanjhjcfhhiaa.allocateNoSwing
open Go.RowKit Go.Sort
set_option linter.unusedVariables false

/-- the last decision goes the way of the next one -/
def LR (L m d lo hi : Int) : Prop := L = 0 ∨ ((L = 1 ∨ L = 2) ∧ (Al.dk (Al.sx m d lo hi) = 1 ∨ Al.dk (Al.sx m d lo hi) = 2 → Al.dk (Al.sx m d lo hi) = L))
theorem LR.next {m d lo hi : Int} (h : Al.Dom m d lo hi) (hs : Al.dk (Al.sx m d lo hi) = 1 ∨ Al.dk (Al.sx m d lo hi) = 2) : LR (Al.dk (Al.sx m d lo hi)) (Al.nx m d lo hi) d lo hi := by
  obtain ⟨_, _, c1, c2⟩ := Al.nx_dom h hs
  refine .inr ⟨hs, fun hn => ?_⟩
  rcases hs with e | e
  · have := c1 e; omega
  · have := c2 e; omega

/-- what the rounds keep -/
def NS (k r : Nat) (L d lo hi : Int) (fr : Nat) : Prop := Al.Dom k d lo hi ∧ Al.mu k d lo hi + r ≤ 65 ∧ Al.set_ k d lo hi = Al.set_ fr d lo hi ∧ LR L k d lo hi
theorem NS.le {k r : Nat} {L d lo hi : Int} {fr : Nat} (h : NS k r L d lo hi fr) : r ≤ 65 := by have := h.2.1; omega
/-- what a round does -/
def NR (k r : Nat) (L d lo hi : Int) (fr : Nat) (K C : Int) : Prop :=
  (∃ k' : Nat, K = 1 ∧ 1 ≤ C ∧ C ≤ 8 ∧ (L = 0 ∨ L = 1) ∧ (k : Int) + C = k' ∧ (k' : Int) ≤ 64 ∧ r ≤ 64 ∧ NS k' (r + 1) 1 d lo hi fr) ∨
  (∃ k' : Nat, K = 2 ∧ C = 1 ∧ (L = 0 ∨ L = 2) ∧ (k : Int) - 1 = k' ∧ (k' : Int) ≤ 64 ∧ r ≤ 64 ∧ NS k' (r + 1) 2 d lo hi fr) ∨
  (K = 0 ∧ C = 0 ∧ Al.set_ fr d lo hi = k)
theorem NS.round {k r : Nat} {L d lo hi : Int} {fr : Nat} (h : NS k r L d lo hi fr) : NR k r L d lo hi fr (Al.dk (Al.sx k d lo hi)) (Al.dc (Al.sx k d lo hi)) := by
  obtain ⟨D, M, E, LL⟩ := h
  have ST := Al.step_cases D
  have STOP := fun hs : ¬ (Al.dk (Al.sx k d lo hi) = 1 ∨ Al.dk (Al.sx k d lo hi) = 2) => E.symm.trans (Al.set_stop hs)
  have n0 := D.n0
  have l1 := D.l.2
  have l0 := D.l.1.1
  have n1 := D.n1
  by_cases hs : Al.dk (Al.sx k d lo hi) = 1 ∨ Al.dk (Al.sx k d lo hi) = 2
  · obtain ⟨D2, M2, _, _⟩ := Al.nx_dom D hs
    have E2 := (Al.set_step D hs).trans E
    have L2 := LR.next D hs
    have NX : Al.nx k d lo hi = if Al.dk (Al.sx k d lo hi) = 1 then k + Al.dc (Al.sx k d lo hi) else if Al.dk (Al.sx k d lo hi) = 2 then k - Al.dc (Al.sx k d lo hi) else k := rfl
    unfold LR at LL
    have d0 := D2.n0
    have d1 := D2.n1
    obtain ⟨k', hk'⟩ : ∃ k' : Nat, Al.nx k d lo hi = (k' : Int) := ⟨(Al.nx k d lo hi).toNat, by omega⟩
    rw [hk'] at D2 M2 E2 L2 NX d1
    have MM : Al.mu k' d lo hi + (r + 1) ≤ 65 := by
      clear E E2 STOP LL L2 ST NX
      generalize Al.mu k' d lo hi = M' at *
      generalize Al.mu k d lo hi = M0 at *
      omega
    have r64 : r ≤ 64 := by
      clear E E2 STOP LL L2 ST NX M M2
      generalize Al.mu k' d lo hi = M' at *
      omega
    clear STOP E hk' d0 M M2
    rcases hs with e | e
    · rw [e] at L2 NX LL ST ⊢
      simp only [if_true] at NX
      have HM := Lib.hid MM
      have HE := Lib.hid E2
      clear MM E2
      refine .inl ⟨k', rfl, by omega, by omega, by omega, by omega, d1, r64, D2, HM.out, HE.out, L2⟩
    · rw [e] at L2 NX LL ST ⊢
      simp at NX
      have HM := Lib.hid MM
      have HE := Lib.hid E2
      clear MM E2
      refine .inr (.inl ⟨k', rfl, by omega, by omega, by omega, d1, r64, D2, HM.out, HE.out, L2⟩)
  · refine .inr (.inr ⟨by omega, by omega, STOP hs⟩)

set_option maxHeartbeats 8000000 in
set_option maxRecDepth 100000 in
theorem walk (n demand least most : Int) (wn : (Lit.int .u8 n).wf = true) (wd : (Lit.int .u8 demand).wf = true) (wl : (Lit.int .u8 least).wf = true) (wm : (Lit.int .u8 most).wf = true) (w : World) :
    Calls Try.prog 5 #[.int .u8 n, .int .u8 demand, .int .u8 least, .int .u8 most] w fun e w' => e = .returned (.bool true) ∧ Gr w w' := by
  have bn := bounds_u8 wn
  have bd := bounds_u8 wd
  have bl := bounds_u8 wl
  have bm := bounds_u8 wm
  obtain ⟨n0, n1⟩ := bn
  obtain ⟨d0, d1⟩ := bd
  obtain ⟨l0, l1⟩ := bl
  obtain ⟨m0, m1⟩ := bm
  obtain ⟨hi, ehi⟩ : ∃ h, most % 65 = h := ⟨_, rfl⟩
  have h0 : 0 ≤ hi := by omega
  have h1 : hi ≤ 64 := by omega
  obtain ⟨lo, elo⟩ : ∃ h, least % (hi + 1) = h := ⟨_, rfl⟩
  have p0 : 0 ≤ lo := by rw [← elo]; exact Int.emod_nonneg _ (by omega)
  have p1 : lo ≤ hi := by have := Int.emod_lt_of_pos least (show 0 < hi + 1 by omega); omega
  obtain ⟨fr, efr⟩ : ∃ h : Nat, n % 65 = (h : Int) := ⟨(n % 65).toNat, by omega⟩
  have f0 : (0 : Int) ≤ (fr : Int) := by omega
  have f1 : (fr : Int) ≤ 64 := by omega
  obtain ⟨dd, edd⟩ : ∃ h, demand % 80 = h := ⟨_, rfl⟩
  have e0 : 0 ≤ dd := by omega
  have e1 : dd ≤ 79 := by omega
  have OL : Hid (Al.okL lo hi) := (show Al.okL lo hi from ⟨⟨p0, p1⟩, h1⟩)
  have D0 := Lib.hid (show Al.Dom fr dd lo hi from ⟨f0, f1, e0, OL.out⟩)
  have S1 : Aside (∀ W, Calls Try.prog 16 #[.int .i64 fr, .int .i64 dd, .int .i64 lo, .int .i64 hi] W fun e w' => e = .returned (.tuple #[.int .i64 (Al.set_ fr dd lo hi), .int .i64 0]) ∧ Gr W w') := fun W => (settle_any fr dd lo hi W).mono fun e w' ⟨a, b⟩ => by
    have ok : Al.okS fr dd lo hi := ⟨OL.out, ⟨f0, f1⟩, ⟨e0, by omega⟩⟩
    exact ⟨a.trans (ret_int2 (if_pos ok) (if_pos ok)), b⟩
  have EFR := Lib.hid efr
  go_enter Try.func5, Try.ntmps5
  go_wp2_with fail
  refine (awake_any _).mono ?_
  rintro e w1 ⟨rfl, g1⟩
  have G1 : Aside (Gr w w1) := g1
  clear g1
  go_wp2_with fail
  simp only [ehi, elo, efr, edd]
  clear ehi elo efr edd
  go_loopg [11, 13, 14, 15, 16, 35] 70 (fun gg s11 s13 _ _ _ s35 wr => ∃ r : Nat, ∃ k : Nat, ∃ L : Int, 70 - r ≤ gg ∧ s35 = .int .i64 (r : Int) ∧ s11 = .int .i64 (k : Int) ∧ s13 = .int .i64 L ∧ k ≤ 64 ∧ NS k r L dd lo hi fr ∧ Aside (Gr w wr))
  case atStart => exact ⟨0, fr, 0, by omega, rfl, rfl, rfl, by omega, ⟨D0.out, by have := Al.mu_le D0.out; omega, rfl, .inl rfl⟩, G1.out⟩
  case round =>
    obtain ⟨r, k, L, hgg, rfl, rfl, rfl, hk, I, G⟩ := hrel
    have hr := I.le
    have hltz : (r : Int) < 70 := by omega
    have CE := fun W => cells_any k dd W hk
    have DE := Lib.hid (ceL_dec (n := k) (d := dd) (lo := lo) (hi := hi) e0 hk OL.out)
    have RO := I.round
    go_wp2_with fail
    refine (CE _).mono ?_
    rintro e w4 ⟨v, rfl, hv, g4⟩
    have G4 : Aside (Gr w w4) := G.out.trans g4
    have HV := Lib.hid hv
    have CD := fun W g => decideA_any v (ceL k dd) 0 lo hi W (HV.out.gr (w := W) g) (by rw [ceL_len]; omega)
    rw [DE.out.1, DE.out.2.1, DE.out.2.2] at CD
    generalize Al.dk (Al.sx k dd lo hi) = K at CD RO
    generalize Al.dc (Al.sx k dd lo hi) = C at CD RO
    clear DE
    have CD' := Lib.hid CD
    obtain ⟨A, c, rfl⟩ := hv.slice
    clear hv g4 CE CD
    rcases RO with ⟨k', rfl, c1, c2, hL, hk', k64, r64, N⟩ | ⟨k', rfl, rfl, hL, hk', k64, r64, N⟩ | ⟨rfl, rfl, EN⟩
    · have HK := Lib.hid hk'
      have x0 : 0 ≤ (k : Int) + C := by omega
      have x1 : (k : Int) + C ≤ 64 := by omega
      have HD := CD'.out _ (Gr.refl _)
      clear CD' HV D0 S1 EFR OL I hk'
      rcases hL with rfl | rfl
      all_goals
        go_wp2_with fail
        refine HD.mono ?_
        rintro e w5 ⟨rfl, g5⟩
        have G5 : Aside (Gr w w5) := G4.out.trans g5
        clear g5 HD
        go_wp2_with fail
        go_roundg (70 - (r + 1))
        case measure => omega
        case rel => exact ⟨r + 1, k', 1, by omega, by go_num, by rw [HK.out], rfl, by omega, N, G5.out⟩
    · have HK := Lib.hid hk'
      have x0 : 0 ≤ (k : Int) - 1 := by omega
      have x1 : (k : Int) - 1 ≤ 64 := by omega
      have HD := CD'.out _ (Gr.refl _)
      clear CD' HV D0 S1 EFR OL I hk'
      rcases hL with rfl | rfl
      all_goals
        go_wp2_with fail
        refine HD.mono ?_
        rintro e w5 ⟨rfl, g5⟩
        have G5 : Aside (Gr w w5) := G4.out.trans g5
        clear g5 HD
        go_wp2_with fail
        go_roundg (70 - (r + 1))
        case measure => omega
        case rel => exact ⟨r + 1, k', 2, by omega, by go_num, by rw [HK.out], rfl, by omega, N, G5.out⟩
    · have SS := Lib.hid S1.out
      have EN' := Lib.hid EN
      clear EN I
      go_wp2_with fail
      refine (CD'.out _ (Gr.refl _)).mono ?_
      rintro e w5 ⟨rfl, g5⟩
      have G5 : Aside (Gr w w5) := G4.out.trans g5
      clear g5
      go_wp2_with fail
      rw [EFR.out]
      refine (SS.out _).mono ?_
      rintro e w6 ⟨rfl, g6⟩
      have G6 : Aside (Gr w w6) := G5.out.trans g6
      clear g6
      rw [EN'.out]
      go_wp2_with fail
      go_ret
      exact ⟨by first | rfl | simp, G6.out⟩
end Go.Proofs.Ytkhanjhjcfhhiaa.allocateNoSwing

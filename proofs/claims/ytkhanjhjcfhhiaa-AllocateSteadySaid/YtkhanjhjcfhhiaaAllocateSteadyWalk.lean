/- The walk of AllocateSteady: the Go text returns true. -/
import Derived.Test.YtkhanjhjcfhhiaaAlcCells
namespace Go.Proofs.Ytkhanjhjcfhhiaa.allocateSteady
open Go.RowKit Go.Sort
set_option linter.unusedVariables false

theorem dom_facts {k d lo hi : Int} (h : Al.Dom k d lo hi) (hs : ¬ (Al.dk (Al.sx k d lo hi) = 1 ∨ Al.dk (Al.sx k d lo hi) = 2)) :
    Al.dk (Al.sx k d lo hi) = 0 ∧ Al.dc (Al.sx k d lo hi) = 0 ∧ ¬ k < lo ∧ ¬ (0 < k ∧ 3 * k ≤ 4 * min d k ∧ k < hi) ∧ ¬ (4 * min d k < k ∧ lo < k ∧ 1 < k) := by
  have := Al.step_cases h
  rcases this with c | c | c
  · exact absurd (.inl c.1) hs
  · exact absurd (.inr c.1) hs
  · exact c

set_option maxHeartbeats 8000000 in
set_option maxRecDepth 100000 in
theorem walk (n demand least most : Int) (wn : (Lit.int .u8 n).wf = true) (wd : (Lit.int .u8 demand).wf = true) (wl : (Lit.int .u8 least).wf = true) (wm : (Lit.int .u8 most).wf = true) (w : World) :
    Calls Try.prog 4 #[.int .u8 n, .int .u8 demand, .int .u8 least, .int .u8 most] w fun e w' => e = .returned (.bool true) ∧ Gr w w' := by
  have bn := bounds_u8 wn
  have bd := bounds_u8 wd
  have bl := bounds_u8 wl
  have bm := bounds_u8 wm
  obtain ⟨n0, n1⟩ := bn
  obtain ⟨d0, d1⟩ := bd
  obtain ⟨l0, l1⟩ := bl
  obtain ⟨m0, m1⟩ := bm
  obtain ⟨hi, ehi⟩ : ∃ h, most % 65 = h := ⟨_, rfl⟩
  have h0 : 0 ≤ hi := by omega
  have h1 : hi ≤ 64 := by omega
  obtain ⟨lo, elo⟩ : ∃ h, least % (hi + 1) = h := ⟨_, rfl⟩
  have p0 : 0 ≤ lo := by rw [← elo]; exact Int.emod_nonneg _ (by omega)
  have p1 : lo ≤ hi := by have := Int.emod_lt_of_pos least (show 0 < hi + 1 by omega); omega
  obtain ⟨fr, efr⟩ : ∃ h, n % 65 = h := ⟨_, rfl⟩
  have f0 : 0 ≤ fr := by omega
  have f1 : fr ≤ 64 := by omega
  obtain ⟨dd, edd⟩ : ∃ h, demand % 80 = h := ⟨_, rfl⟩
  have e0 : 0 ≤ dd := by omega
  have e1 : dd ≤ 79 := by omega
  have OL : Hid (Al.okL lo hi) := (show Al.okL lo hi from ⟨⟨p0, p1⟩, h1⟩)
  have D0 : Al.Dom fr dd lo hi := ⟨f0, f1, e0, OL.out⟩
  have S1 : ∀ W, Calls Try.prog 16 #[.int .i64 fr, .int .i64 dd, .int .i64 lo, .int .i64 hi] W fun e w' => e = .returned (.tuple #[.int .i64 (Al.set_ fr dd lo hi), .int .i64 0]) ∧ Gr W w' := fun W => (settle_any fr dd lo hi W).mono fun e w' ⟨a, b⟩ => by
    have ok : Al.okS fr dd lo hi := ⟨OL.out, ⟨f0, f1⟩, ⟨e0, by omega⟩⟩
    exact ⟨a.trans (ret_int2 (if_pos ok) (if_pos ok)), b⟩
  obtain ⟨DA, NS, LO, UP⟩ := Al.set_end 65 (Al.mu_le D0) D0
  have F := dom_facts DA NS
  have E := Al.set_stop NS
  have S2 : ∀ W, Calls Try.prog 16 #[.int .i64 (Al.set_ fr dd lo hi), .int .i64 dd, .int .i64 lo, .int .i64 hi] W fun e w' => e = .returned (.tuple #[.int .i64 (Al.set_ fr dd lo hi), .int .i64 0]) ∧ Gr W w' := fun W => (settle_any _ dd lo hi W).mono fun e w' ⟨a, b⟩ => by
    have ok : Al.okS (Al.set_ fr dd lo hi) dd lo hi := ⟨OL.out, ⟨DA.n0, DA.n1⟩, ⟨e0, by omega⟩⟩
    exact ⟨a.trans (ret_int2 ((if_pos ok).trans E) (if_pos ok)), b⟩
  clear NS E D0
  generalize Al.set_ fr dd lo hi = at' at *
  have a0 := DA.n0
  have a1 := DA.n1
  obtain ⟨k, rfl⟩ : ∃ k : Nat, at' = k := ⟨at'.toNat, by omega⟩
  have hk : k ≤ 64 := by omega
  have CE := fun W => cells_any k dd W hk
  have DE := Lib.hid (ceL_dec (n := k) (d := dd) (lo := lo) (hi := hi) e0 hk OL.out)
  have FH := Lib.hid F
  obtain ⟨-, -, F3, F4, F5⟩ := F
  obtain ⟨q, hq⟩ : ∃ q, min dd (k : Int) = q := ⟨_, rfl⟩
  rw [hq] at F4 F5
  have q0 : 0 ≤ q := by omega
  have q1 : q ≤ k := by omega
  have q2 : q ≤ 64 := by omega
  have F4' := Lib.hid F4
  have F5' := Lib.hid F5
  have UP' := Lib.hid UP
  have b1 := bf (show ¬ (k : Int) < 0 by omega)
  have b2 := bf (show ¬ (64 : Int) < k by omega)
  have b3 := bf F3
  have HQ := Lib.hid hq
  clear F4 F5 UP DA F3
  go_enter Try.func4, Try.ntmps4
  go_wp2_with fail
  refine (awake_any _).mono ?_
  rintro e w1 ⟨rfl, g1⟩
  have G1 : Aside (Gr w w1) := g1
  clear g1
  go_wp2_with fail
  refine (S1 _).mono ?_
  rintro e w2 ⟨rfl, g2⟩
  have G2 : Aside (Gr w w2) := G1.out.trans g2
  clear g2
  go_wp2_with fail
  refine (S2 _).mono ?_
  rintro e w3 ⟨rfl, g3⟩
  have G3 : Aside (Gr w w3) := G2.out.trans g3
  clear g3 S1 S2 ehi elo efr edd
  have ub := UP'.out
  have w1' : decide (max (max fr hi) lo < (k : Int)) = false := bf (by omega)
  by_cases kp : 0 < k
  · have kz : 0 < (k : Int) := by omega
    go_wp2_with fail
    refine (CE _).mono ?_
    rintro e w4 ⟨v, rfl, hv, g4⟩
    have G4 : Aside (Gr w w4) := G3.out.trans g4
    have HV := Lib.hid hv
    have CD := fun W g => decideA_any v (ceL k dd) 0 lo hi W (HV.out.gr (w := W) g) (by rw [ceL_len]; omega)
    rw [DE.out.1, DE.out.2.1, DE.out.2.2, FH.out.1, FH.out.2.1] at CD
    have CD' := Lib.hid CD
    obtain ⟨A, c, rfl⟩ := hv.slice
    clear hv g4 CE CD ub
    go_wp2_with fail
    refine (CD'.out _ (Gr.refl _)).mono ?_
    rintro e w5 ⟨rfl, g5⟩
    have G5 : Aside (Gr w w5) := G4.out.trans g5
    clear g5
    go_wp2_with fail
    all_goals
      have x4 := F4'.out
      have x5 := F5'.out
      have ub := UP'.out
      first
      | (exfalso; omega)
      | (go_ret
         refine ⟨?_, G5.out⟩
         first | rfl | (simp; done) | (simp; omega))
  · obtain rfl : k = 0 := by omega
    clear ub CE
    go_wp2_with fail
    all_goals
      have x4 := F4'.out
      have x5 := F5'.out
      have ub := UP'.out
      first
      | (exfalso; omega)
      | (go_ret
         refine ⟨?_, G3.out⟩
         first | rfl | (simp; done) | (simp; omega))
end Go.Proofs.Ytkhanjhjcfhhiaa.allocateSteady

/- The walk of LoopSamples: the Go text returns true. -/
import Derived.Test.YtckkjiaoaeaaoaaLopFew
import Derived.Test.YtckkjiaoaeaaoaaLopOk
namespace Go.Proofs.Ytckkjiaoaeaaoaa.loopSamples
open Go.RowKit Go.Sort
set_option linter.unusedVariables false

set_option maxHeartbeats 4000000 in
set_option maxRecDepth 100000 in
theorem walk (l0 l1 l2 l3 l4 l5 l6 s0 s1 : Int) (v2 : Value) (d : List Dv) (wl0 : (Lit.int .i64 l0).wf = true) (wl1 : (Lit.int .i64 l1).wf = true) (wl2 : (Lit.int .i64 l2).wf = true) (wl3 : (Lit.int .i64 l3).wf = true) (wl4 : (Lit.int .i64 l4).wf = true) (wl5 : (Lit.int .i64 l5).wf = true) (wl6 : (Lit.int .i64 l6).wf = true) (ws0 : (Lit.int .i64 s0).wf = true) (ws1 : (Lit.int .i64 s1).wf = true) (w : World)
    (rd : Rows 3 encD w v2 d) (bd : (d.length : Int) ≤ 9223372036854775807) (kd : ∀ A n c, v2 = .slice A n c → n ≤ c ∧ c ≤ 9223372036854775807) (wd : ∀ x ∈ d, okDv x) :
    Calls Try.prog 4 #[.agg #[.int .i64 l0, .int .i64 l1, .int .i64 l2, .int .i64 l3, .int .i64 l4, .int .i64 l5, .int .i64 l6], .agg #[.int .i64 s0, .int .i64 s1], v2] w fun e w' => e = .returned (.bool true) ∧ Gr w w' := by
  clear wl0 wl1 wl2 wl3 wl4 wl5 wl6 ws0 ws1 kd wd
  obtain ⟨l, hl⟩ : ∃ l : Lo, l = ⟨l0, l1, l2, l3, l4, l5, l6⟩ := ⟨_, rfl⟩
  obtain ⟨s, hs⟩ : ∃ s : Sp, s = ⟨s0, s1⟩ := ⟨_, rfl⟩
  have e0 : l0 = l.id := by rw [hl]
  have e1 : l1 = l.se := by rw [hl]
  have e2 : l2 = l.co := by rw [hl]
  have e3 : l3 = l.ac := by rw [hl]
  have e4 : l4 = l.pe := by rw [hl]
  have e5 : l5 = l.ph := by rw [hl]
  have e6 : l6 = l.ag := by rw [hl]
  have e7 : s0 = s.s := by rw [hs]
  have e8 : s1 = s.a := by rw [hs]
  clear hl hs
  subst e0 e1 e2 e3 e4 e5 e6 e7 e8
  obtain ⟨A, c, rfl⟩ := rd.slice
  obtain ⟨n, hn⟩ : ∃ n, d.length = n := ⟨_, rfl⟩
  have RD : Hid (Rows 3 encD w (.slice A n c) d) := by rw [hn] at rd; exact rd
  have HN := Lib.hid hn
  rw [hn] at bd ⊢
  clear rd hn
  go_enter Try.func4, Try.ntmps4
  go_wp2_with fail
  obtain ⟨L0, S0⟩ := boxed2 (enc := encL) (enc2 := encP) (x := l) (y := s) (Gr.refl ((w.alloc (Obj.cells (encL l).toArray 23)).alloc (Obj.cells (encP s).toArray 25)))
  have G0 : Aside (Gr w ((w.alloc (Obj.cells (encL l).toArray 23)).alloc (Obj.cells (encP s).toArray 25))) := Gr.alloc (Gr.alloc (Gr.refl _) _) _
  generalize ((w.alloc (Obj.cells (encL l).toArray 23)).alloc (Obj.cells (encP s).toArray 25)) = w0 at L0 S0 G0 ⊢
  refine (lawake_any _).mono ?_
  rintro e w1 ⟨rfl, g1⟩
  have G1 : Aside (Gr w w1) := G0.out.trans g1
  have L1 := Lib.hid (L0.gr g1)
  have S1 := Lib.hid (S0.gr g1)
  clear g1 L0 S0 G0
  go_wp2_with fail
  refine (rfew_any A n c _).mono ?_
  rintro e w2 ⟨rfl, g2⟩
  have G2 : Aside (Gr w w2) := G1.out.trans g2
  have L2 := Lib.hid (L1.out.gr g2)
  have S2 := Lib.hid (S1.out.gr g2)
  clear g2 L1 S1 G1
  have u0 := (L2.out) 0 _ rfl; have u1 := (L2.out) 1 _ rfl; have u2 := (L2.out) 2 _ rfl; have u3 := (L2.out) 3 _ rfl; have u4 := (L2.out) 4 _ rfl; have u5 := (L2.out) 5 _ rfl; have u6 := (L2.out) 6 _ rfl; (try simp only [Nat.add_zero] at u0); (try simp only [Nat.zero_add] at u0 u1 u2 u3 u4 u5 u6)
  have v0 := (S2.out) 0 _ rfl; have v1 := (S2.out) 1 _ rfl; (try simp only [Nat.add_zero] at v0); (try simp only [Nat.zero_add] at v0 v1)
  have hz := L2.out.lt rfl
  have hz2 := S2.out.lt rfl
  by_cases h24 : n ≤ 24
  · rw [bt h24]
    by_cases h20 : 20 < l.pe
    · go_wp2_with fail
      refine (lawake_any _).mono ?_
      rintro e w3 ⟨rfl, g3⟩
      have G3 : Aside (Gr w w3) := G2.out.trans g3
      go_wp2_with fail
      go_ret
      exact ⟨rfl, G3.out⟩
    · have hb20 : decide (20 < l.pe) = false := bf h20
      go_wp2_with fail
      refine (agesE_any l s _ d 100 _ (by have := RD.out.gr G2.out; rw [← HN.out] at this ⊢; exact this)).mono ?_
      rintro e w3 ⟨va, rfl, ra, g3⟩
      have G3 : Aside (Gr w w3) := G2.out.trans g3
      have L3 := Lib.hid (L2.out.gr g3)
      clear g3 u0 u1 u2 u3 u4 u5 u6 v0 v1 hz hz2 L2 S2
      rcases Lp.chkA_cases l s d.length 100 with hk | hk
      · obtain ⟨hr, -, -⟩ := Lp.chkA_inv hk
        obtain ⟨⟨⟨-, ⟨p1, p2⟩, ⟨p3, p4⟩, -⟩, -⟩, -⟩ := Lp.rgt_inv hr
        have SM : ∀ k, (Lp.age (Lp.fa l s) (Lp.fb l s) d k = -1 ∧ Lp.lst (Lp.fa l s) (Lp.fb l s) d k = -1 ∧ Lp.lst (Lp.fa l s) (Lp.fb l s) d (k + 1) = -1) ∨ (∃ T, 0 ≤ Lp.age (Lp.fa l s) (Lp.fb l s) d k ∧ (k : Int) - Lp.age (Lp.fa l s) (Lp.fb l s) d k - l.ph = T ∧ 0 ≤ T ∧ T % l.pe = 0 ∧ Lp.lst (Lp.fa l s) (Lp.fb l s) d k ≤ T ∧ Lp.lst (Lp.fa l s) (Lp.fb l s) d (k + 1) = T) := fun k => Lp.smp (a := Lp.fa l s) (b := Lp.fb l s) (ds := d) (show 0 ≤ l.pe by omega) k
        have RA : Hid (Rows 1 encI w3 va ((List.range 100).map (Lp.age (Lp.fa l s) (Lp.fb l s) d))) := (show Rows _ _ _ _ _ by
          have e : Lp.ageR l s d 100 = (List.range 100).map (Lp.age (Lp.fa l s) (Lp.fb l s) d) := if_pos hk
          rw [← e]; exact ra)
        rw [hk]
        have LS0 : Lp.lst (Lp.fa l s) (Lp.fb l s) d 0 = -1 := rfl
        obtain ⟨LS, hLS⟩ : ∃ LS, Lp.lst (Lp.fa l s) (Lp.fb l s) d = LS := ⟨_, rfl⟩
        obtain ⟨AG, hAG⟩ : ∃ AG, Lp.age (Lp.fa l s) (Lp.fb l s) d = AG := ⟨_, rfl⟩
        simp only [hLS, hAG] at SM LS0
        rw [hAG] at RA
        have SMH := Lib.hid SM
        have LS0H := Lib.hid LS0
        clear hk hr ra SM LS0 hLS hAG hb20 h20 h24
        rcases RA.out with ⟨h, _⟩ | ⟨b, off, ca, hb, rfl, hc⟩
        · exact absurd (congrArg List.length h) (by simp)
        have CC : Aside (∀ k, k < 100 → w3.cell? ⟨b, off + k, none⟩ = some (.int .i64 (AG k))) := fun k hk => by
          have := hc k (AG k) (by simp [hk]) 0 _ rfl
          simpa using this
        have HB := Lib.hid hb
        rw [show ((List.range 100).map AG).length = 100 by simp]
        clear hc hb RA
        go_wp2_with fail
        go_loopg [6, 9, 10, 11, 12, 40, 51, 62] 100 (fun gg _ s9 _ _ _ s40 _ _ wr => ∃ kk : Nat, kk ≤ 100 ∧ 100 - kk ≤ gg ∧ s40 = .int .i64 (kk : Int) ∧ s9 = .int .i64 (LS kk) ∧ Aside (Gr w3 wr))
        case atStart => exact ⟨0, Nat.zero_le _, by omega, rfl, by rw [LS0H.out], Gr.refl _⟩
        case round =>
          obtain ⟨kk, hkk, hgg, rfl, rfl, G⟩ := hrel
          by_cases hlt : kk < 100
          · have hltz : (kk : Int) < 100 := by omega
            have L4 := Lib.hid (L3.out.gr G.out)
            have ck := held_keep G.out (CC.out kk hlt)
            have hbr := block_lt_of_cell ck
            have u0 := (L4.out) 0 _ rfl; have u1 := (L4.out) 1 _ rfl; have u2 := (L4.out) 2 _ rfl; have u3 := (L4.out) 3 _ rfl; have u4 := (L4.out) 4 _ rfl; have u5 := (L4.out) 5 _ rfl; have u6 := (L4.out) 6 _ rfl; (try simp only [Nat.add_zero] at u0); (try simp only [Nat.zero_add] at u0 u1 u2 u3 u4 u5 u6)
            have hz := L4.out.lt rfl
            rcases SMH.out kk with ⟨q1, q2, q3⟩ | ⟨T, q1, q2, q3, q4, q5, q6⟩
            · have Q3 := Lib.hid q3
              rw [q1] at ck
              rw [q2]
              clear q1 q2 q3
              go_wp2_with fail
              go_roundg (100 - (kk + 1))
              case measure => omega
              case rel => exact ⟨kk + 1, by omega, by omega, by go_num, by rw [Q3.out], G.out⟩
            · have Q6 := Lib.hid q6
              have r1 : T.tmod l.pe = 0 := by rw [Int.tmod_eq_emod_of_nonneg q3]; exact q4
              have r2 : ¬ l.pe = 0 := by omega
              have r3 : ¬ T < LS kk := by omega
              generalize LS kk = lk at *
              generalize AG kk = a at *
              have r5 : (a == -1) = false := by simp; omega
              have r6 : decide (a < -1) = false := bf (by omega)
              clear q4 q5 q6
              go_wp2_with fail
              go_roundg (100 - (kk + 1))
              case measure => omega
              case rel => exact ⟨kk + 1, by omega, by omega, by go_num, by rw [Q6.out], G.out⟩
          · have hltz : ¬ (kk : Int) < 100 := by omega
            go_wp2_with fail
            go_ret
            exact ⟨rfl, G3.out.trans G.out⟩
      · have R : Lp.ageR l s d 100 = [] := if_neg (by simpa using hk)
        rw [R] at ra
        generalize Lp.chkA l s d.length 100 = E at *
        obtain ⟨A3, c3, rfl⟩ := ra.slice
        rw [show ([] : List Int).length = 0 from rfl]
        clear ra R
        go_wp2_with fail
        go_ret
        exact ⟨rfl, G3.out⟩
  · rw [bf h24]
    go_wp2_with fail
    refine (lawake_any _).mono ?_
    rintro e w3 ⟨rfl, g3⟩
    have G3 : Aside (Gr w w3) := G2.out.trans g3
    go_wp2_with fail
    go_ret
    exact ⟨rfl, G3.out⟩
end Go.Proofs.Ytckkjiaoaeaaoaa.loopSamples

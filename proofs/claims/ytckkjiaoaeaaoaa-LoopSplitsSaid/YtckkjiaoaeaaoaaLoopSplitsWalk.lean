/- The walk of LoopSplits: the Go text returns true. -/
import Derived.Test.YtckkjiaoaeaaoaaLopI
import Derived.Test.YtckkjiaoaeaaoaaR50B
import Derived.Test.YtckkjiaoaeaaoaaEqualP
import Derived.Test.YtckkjiaoaeaaoaaEqualF
namespace Go.Proofs.Ytckkjiaoaeaaoaa.loopSplits
open Go.RowKit Go.Sort
set_option linter.unusedVariables false

theorem spl_len (l : Lo) : ((Lp.spl l).length : Int) ≤ 9223372036854775807 := by
  rcases Lp.flt_cases 32 l with h | h
  · rw [Lp.spl_ok h, List.length_map, List.length_range]
    have := spN_le h
    obtain ⟨⟨-, ⟨p1, p2⟩, -⟩, -⟩ := Lp.flt_inv h
    omega
  · rw [Lp.spl_no (by simpa using h)]; simp
theorem flw_len (l : Lo) (s : Sp) : ((Lp.flwL l s).length : Int) ≤ 9223372036854775807 := by
  unfold Lp.flwL
  split <;> simp

set_option maxHeartbeats 4000000 in
theorem walk (l0 l1 l2 l3 l4 l5 l6 s0 s1 : Int) (wl0 : (Lit.int .i64 l0).wf = true) (wl1 : (Lit.int .i64 l1).wf = true) (wl2 : (Lit.int .i64 l2).wf = true) (wl3 : (Lit.int .i64 l3).wf = true) (wl4 : (Lit.int .i64 l4).wf = true) (wl5 : (Lit.int .i64 l5).wf = true) (wl6 : (Lit.int .i64 l6).wf = true) (ws0 : (Lit.int .i64 s0).wf = true) (ws1 : (Lit.int .i64 s1).wf = true) (w : World) :
    Calls Try.prog 5 #[.agg #[.int .i64 l0, .int .i64 l1, .int .i64 l2, .int .i64 l3, .int .i64 l4, .int .i64 l5, .int .i64 l6], .agg #[.int .i64 s0, .int .i64 s1]] w fun e w' => e = .returned (.bool true) ∧ Gr w w' := by
  clear wl0 wl1 wl2 wl3 wl4 wl5 wl6 ws0 ws1
  obtain ⟨l, hl⟩ : ∃ l : Lo, l = ⟨l0, l1, l2, l3, l4, l5, l6⟩ := ⟨_, rfl⟩
  obtain ⟨s, hs⟩ : ∃ s : Sp, s = ⟨s0, s1⟩ := ⟨_, rfl⟩
  have e0 : l0 = l.id := by rw [hl]
  have e1 : l1 = l.se := by rw [hl]
  have e2 : l2 = l.co := by rw [hl]
  have e3 : l3 = l.ac := by rw [hl]
  have e4 : l4 = l.pe := by rw [hl]
  have e5 : l5 = l.ph := by rw [hl]
  have e6 : l6 = l.ag := by rw [hl]
  have e7 : s0 = s.s := by rw [hs]
  have e8 : s1 = s.a := by rw [hs]
  clear hl hs
  subst e0 e1 e2 e3 e4 e5 e6 e7 e8
  have SL := spl_len l
  have FLn := flw_len l s
  go_enter Try.func5, Try.ntmps5
  go_wp2_with fail
  obtain ⟨L0, S0⟩ := boxed2 (enc := encL) (enc2 := encP) (x := l) (y := s) (Gr.refl ((w.alloc (Obj.cells (encL l).toArray 23)).alloc (Obj.cells (encP s).toArray 25)))
  have G0 : Aside (Gr w ((w.alloc (Obj.cells (encL l).toArray 23)).alloc (Obj.cells (encP s).toArray 25))) := Gr.alloc (Gr.alloc (Gr.refl _) _) _
  generalize ((w.alloc (Obj.cells (encL l).toArray 23)).alloc (Obj.cells (encP s).toArray 25)) = w0 at L0 S0 G0 ⊢
  refine (lawake_any _).mono ?_
  rintro e w1 ⟨rfl, g1⟩
  have G1 : Aside (Gr w w1) := G0.out.trans g1
  have L1 := Lib.hid (L0.gr g1)
  have S1 := Lib.hid (S0.gr g1)
  clear g1 L0 S0
  have u0 := (L1.out) 0 _ rfl; have u1 := (L1.out) 1 _ rfl; have u2 := (L1.out) 2 _ rfl; have u3 := (L1.out) 3 _ rfl; have u4 := (L1.out) 4 _ rfl; have u5 := (L1.out) 5 _ rfl; have u6 := (L1.out) 6 _ rfl; (try simp only [Nat.add_zero] at u0); (try simp only [Nat.zero_add] at u0 u1 u2 u3 u4 u5 u6)
  have v0 := (S1.out) 0 _ rfl; have v1 := (S1.out) 1 _ rfl; (try simp only [Nat.add_zero] at v0); (try simp only [Nat.zero_add] at v0 v1)
  have hz := L1.out.lt rfl
  have hz2 := S1.out.lt rfl
  go_wp2_with fail
  refine (worst_any l s _).mono ?_
  rintro e w2 ⟨rfl, g2⟩
  have G2 : Aside (Gr w w2) := G1.out.trans g2
  have L2 := Lib.hid (L1.out.gr g2)
  have S2 := Lib.hid (S1.out.gr g2)
  clear g2 L1 S1 u0 u1 u2 u3 u4 u5 u6 v0 v1 hz hz2
  have u0 := (L2.out) 0 _ rfl; have u1 := (L2.out) 1 _ rfl; have u2 := (L2.out) 2 _ rfl; have u3 := (L2.out) 3 _ rfl; have u4 := (L2.out) 4 _ rfl; have u5 := (L2.out) 5 _ rfl; have u6 := (L2.out) 6 _ rfl; (try simp only [Nat.add_zero] at u0); (try simp only [Nat.zero_add] at u0 u1 u2 u3 u4 u5 u6)
  have v0 := (S2.out) 0 _ rfl; have v1 := (S2.out) 1 _ rfl; (try simp only [Nat.add_zero] at v0); (try simp only [Nat.zero_add] at v0 v1)
  have hz := L2.out.lt rfl
  have hz2 := S2.out.lt rfl
  go_wp2_with fail
  refine (rworst_any l s _).mono ?_
  rintro e w3 ⟨rfl, g3⟩
  have G3 : Aside (Gr w w3) := G2.out.trans g3
  have L3 := Lib.hid (L2.out.gr g3)
  have S3 := Lib.hid (S2.out.gr g3)
  clear g3 L2 S2 u0 u1 u2 u3 u4 u5 u6 v0 v1 hz hz2
  have u0 := (L3.out) 0 _ rfl; have u1 := (L3.out) 1 _ rfl; have u2 := (L3.out) 2 _ rfl; have u3 := (L3.out) 3 _ rfl; have u4 := (L3.out) 4 _ rfl; have u5 := (L3.out) 5 _ rfl; have u6 := (L3.out) 6 _ rfl; (try simp only [Nat.add_zero] at u0); (try simp only [Nat.zero_add] at u0 u1 u2 u3 u4 u5 u6)
  have hz := L3.out.lt rfl
  go_wp2_with fail
  refine (splits_any l _).mono ?_
  rintro e w4 ⟨va, rfl, ra, g4⟩
  have G4 : Aside (Gr w w4) := G3.out.trans g4
  have L4 := Lib.hid (L3.out.gr g4)
  have S4 := Lib.hid (S3.out.gr g4)
  have RA4 := Lib.hid ra
  clear g4 L3 S3 u0 u1 u2 u3 u4 u5 u6 hz ra
  have u0 := (L4.out) 0 _ rfl; have u1 := (L4.out) 1 _ rfl; have u2 := (L4.out) 2 _ rfl; have u3 := (L4.out) 3 _ rfl; have u4 := (L4.out) 4 _ rfl; have u5 := (L4.out) 5 _ rfl; have u6 := (L4.out) 6 _ rfl; (try simp only [Nat.add_zero] at u0); (try simp only [Nat.zero_add] at u0 u1 u2 u3 u4 u5 u6)
  have hz := L4.out.lt rfl
  go_wp2_with fail
  refine (rsplits_any l _).mono ?_
  rintro e w5 ⟨vb, rfl, rb, g5⟩
  have G5 : Aside (Gr w w5) := G4.out.trans g5
  have L5 := Lib.hid (L4.out.gr g5)
  have S5 := Lib.hid (S4.out.gr g5)
  have RA5 := Lib.hid (RA4.out.gr g5)
  have RB5 := Lib.hid rb
  clear g5 L4 S4 u0 u1 u2 u3 u4 u5 u6 hz rb RA4
  have u0 := (L5.out) 0 _ rfl; have u1 := (L5.out) 1 _ rfl; have u2 := (L5.out) 2 _ rfl; have u3 := (L5.out) 3 _ rfl; have u4 := (L5.out) 4 _ rfl; have u5 := (L5.out) 5 _ rfl; have u6 := (L5.out) 6 _ rfl; (try simp only [Nat.add_zero] at u0); (try simp only [Nat.zero_add] at u0 u1 u2 u3 u4 u5 u6)
  have v0 := (S5.out) 0 _ rfl; have v1 := (S5.out) 1 _ rfl; (try simp only [Nat.add_zero] at v0); (try simp only [Nat.zero_add] at v0 v1)
  have hz := L5.out.lt rfl
  have hz2 := S5.out.lt rfl
  go_wp2_with fail
  refine (flowsE_any l s _).mono ?_
  rintro e w6 ⟨vc, rfl, rc, g6⟩
  have G6 : Aside (Gr w w6) := G5.out.trans g6
  have L6 := Lib.hid (L5.out.gr g6)
  have S6 := Lib.hid (S5.out.gr g6)
  have RA6 := Lib.hid (RA5.out.gr g6)
  have RB6 := Lib.hid (RB5.out.gr g6)
  have RC6 := Lib.hid rc
  clear g6 L5 S5 u0 u1 u2 u3 u4 u5 u6 v0 v1 hz hz2 rc RA5 RB5
  have u0 := (L6.out) 0 _ rfl; have u1 := (L6.out) 1 _ rfl; have u2 := (L6.out) 2 _ rfl; have u3 := (L6.out) 3 _ rfl; have u4 := (L6.out) 4 _ rfl; have u5 := (L6.out) 5 _ rfl; have u6 := (L6.out) 6 _ rfl; (try simp only [Nat.add_zero] at u0); (try simp only [Nat.zero_add] at u0 u1 u2 u3 u4 u5 u6)
  have v0 := (S6.out) 0 _ rfl; have v1 := (S6.out) 1 _ rfl; (try simp only [Nat.add_zero] at v0); (try simp only [Nat.zero_add] at v0 v1)
  have hz := L6.out.lt rfl
  have hz2 := S6.out.lt rfl
  go_wp2_with fail
  refine (rflowsE_any l s _).mono ?_
  rintro e w7 ⟨vd, rfl, rd, g7⟩
  have G7 : Aside (Gr w w7) := G6.out.trans g7
  have RA7 := Lib.hid (RA6.out.gr g7)
  have RB7 := Lib.hid (RB6.out.gr g7)
  have RC7 := Lib.hid (RC6.out.gr g7)
  have RD7 := Lib.hid rd
  clear g7 L6 S6 u0 u1 u2 u3 u4 u5 u6 v0 v1 hz hz2 rd RA6 RB6 RC6
  go_wp2_with fail
  refine (equalP_any _ _ _ _ _ RA7.out RB7.out SL SL).mono ?_
  rintro e w8 ⟨rfl, g8⟩
  have G8 : Aside (Gr w w8) := G7.out.trans g8
  have RC8 := Lib.hid (RC7.out.gr g8)
  have RD8 := Lib.hid (RD7.out.gr g8)
  clear g8 RA7 RB7 RC7 RD7
  go_wp2_with fail
  refine (equalF_any _ _ _ _ _ RC8.out RD8.out FLn FLn).mono ?_
  rintro e w9 ⟨rfl, g9⟩
  have G9 : Aside (Gr w w9) := G8.out.trans g9
  clear g9 RC8 RD8
  go_wp2_with fail
  go_ret
  exact ⟨by first | rfl | simp, G9.out⟩
end Go.Proofs.Ytckkjiaoaeaaoaa.loopSplits

/- awake of chapter 50 returns true. -/
import Derived.Test.YtckkjiaoaeaaoaaLopH
namespace Go.Proofs.Ytckkjiaoaeaaoaa
open Go.RowKit Go.Sort Go.Maps
set_option linter.unusedVariables false

abbrev l0 : Lo := ⟨3, 1, 0, 2, 10, 2, 16⟩
abbrev s0 : Sp := ⟨4, 3⟩
abbrev d0 : List Dv := [⟨6, 0, 5⟩, ⟨7, 0, 8⟩]
theorem l0_w : Lp.wstN l0 s0 = 16 ∧ Lp.rgt l0 s0 = 0 := by decide
theorem l0_f : Lp.flwL l0 s0 = [⟨6, 1, 0, 10, 2, 4⟩, ⟨7, 0, 2, 10, 6, 3⟩] := by rfl
theorem l0_a : Lp.ageR l0 s0 d0 10 = [-1, -1, -1, -1, -1, -1, -1, -1, -1, 7] ∧ Lp.chkA l0 s0 2 10 = 0 := by decide
theorem l0_s : Lp.spl l0 = [⟨1, 6⟩, ⟨2, 5⟩, ⟨3, 4⟩, ⟨4, 3⟩, ⟨5, 2⟩, ⟨6, 1⟩] ∧ Lp.flt 32 l0 = 0 := by decide

theorem aw_w (W : World) : Calls Try.prog 12 #[.agg #[.int .i64 l0.id, .int .i64 l0.se, .int .i64 l0.co, .int .i64 l0.ac, .int .i64 l0.pe, .int .i64 l0.ph, .int .i64 l0.ag], .agg #[.int .i64 s0.s, .int .i64 s0.a]] W fun e w' => e = .returned (.tuple #[.int .i64 16, .int .i64 0]) ∧ Gr W w' := by
  have := worst_any l0 s0 W
  rw [l0_w.1, l0_w.2] at this
  exact this
theorem aw_f (W : World) : Calls Try.prog 19 #[.agg #[.int .i64 l0.id, .int .i64 l0.se, .int .i64 l0.co, .int .i64 l0.ac, .int .i64 l0.pe, .int .i64 l0.ph, .int .i64 l0.ag], .agg #[.int .i64 s0.s, .int .i64 s0.a]] W (FlPost 0 [⟨6, 1, 0, 10, 2, 4⟩, ⟨7, 0, 2, 10, 6, 3⟩] W) := by
  have := flowsE_any l0 s0 W
  rw [l0_f, l0_w.2] at this
  exact this
theorem aw_s (W : World) : Calls Try.prog 17 #[.agg #[.int .i64 l0.id, .int .i64 l0.se, .int .i64 l0.co, .int .i64 l0.ac, .int .i64 l0.pe, .int .i64 l0.ph, .int .i64 l0.ag]] W (SpPost 0 [⟨1, 6⟩, ⟨2, 5⟩, ⟨3, 4⟩, ⟨4, 3⟩, ⟨5, 2⟩, ⟨6, 1⟩] W) := by
  have := splits_any l0 W
  rw [l0_s.1, l0_s.2] at this
  exact this
theorem aw_a (b c : Nat) (W : World) (h : Rows 3 encD W (.slice (some ⟨b, 0, none⟩) 2 c) d0) : Calls Try.prog 13 #[.agg #[.int .i64 l0.id, .int .i64 l0.se, .int .i64 l0.co, .int .i64 l0.ac, .int .i64 l0.pe, .int .i64 l0.ph, .int .i64 l0.ag], .agg #[.int .i64 s0.s, .int .i64 s0.a], .slice (some ⟨b, 0, none⟩) 2 c, .int .i64 10] W (IePost 0 [-1, -1, -1, -1, -1, -1, -1, -1, -1, 7] W) := by
  have := agesE_any l0 s0 _ d0 10 W h
  rw [l0_a.1, show d0.length = 2 from rfl, l0_a.2] at this
  exact this

set_option maxHeartbeats 4000000 in
set_option maxRecDepth 100000 in
theorem lawake_any (w : World) : Calls Try.prog 11 #[] w fun e w' => e = .returned (.bool true) ∧ Gr w w' := by
  go_enter Try.func11, Try.ntmps11
  go_wp2_with fail
  obtain ⟨L0, S0⟩ := boxed2 (enc := encL) (enc2 := encP) (x := l0) (y := s0) (Gr.refl ((w.alloc (Obj.cells (encL l0).toArray 23)).alloc (Obj.cells (encP s0).toArray 25)))
  have G0 : Aside (Gr w ((w.alloc (Obj.cells (encL l0).toArray 23)).alloc (Obj.cells (encP s0).toArray 25))) := Gr.alloc (Gr.alloc (Gr.refl _) _) _
  generalize ((w.alloc (Obj.cells (encL l0).toArray 23)).alloc (Obj.cells (encP s0).toArray 25)) = w0 at L0 S0 G0 ⊢
  refine (aw_w _).mono ?_
  rintro e w1 ⟨rfl, g1⟩
  have G1 : Aside (Gr w w1) := G0.out.trans g1
  have L1 := Lib.hid (L0.gr g1)
  have S1 := Lib.hid (S0.gr g1)
  clear g1 L0 S0
  have u0 := (L1.out) 0 _ rfl; have u1 := (L1.out) 1 _ rfl; have u2 := (L1.out) 2 _ rfl; have u3 := (L1.out) 3 _ rfl; have u4 := (L1.out) 4 _ rfl; have u5 := (L1.out) 5 _ rfl; have u6 := (L1.out) 6 _ rfl; (try simp only [Nat.add_zero] at u0); (try simp only [Nat.zero_add] at u0 u1 u2 u3 u4 u5 u6)
  have v0 := (S1.out) 0 _ rfl; have v1 := (S1.out) 1 _ rfl; (try simp only [Nat.add_zero] at v0); (try simp only [Nat.zero_add] at v0 v1)
  have hz := L1.out.lt rfl
  have hz2 := S1.out.lt rfl
  go_wp2_with fail
  refine (aw_f _).mono ?_
  rintro e w2 ⟨vf, rfl, rf, g2⟩
  have G2 : Aside (Gr w w2) := G1.out.trans g2
  have L2 := Lib.hid (L1.out.gr g2)
  have S2 := Lib.hid (S1.out.gr g2)
  have RF := Lib.hid rf
  clear g2 L1 S1 u0 u1 u2 u3 u4 u5 u6 v0 v1 hz hz2 rf
  have u0 := (L2.out) 0 _ rfl; have u1 := (L2.out) 1 _ rfl; have u2 := (L2.out) 2 _ rfl; have u3 := (L2.out) 3 _ rfl; have u4 := (L2.out) 4 _ rfl; have u5 := (L2.out) 5 _ rfl; have u6 := (L2.out) 6 _ rfl; (try simp only [Nat.add_zero] at u0); (try simp only [Nat.zero_add] at u0 u1 u2 u3 u4 u5 u6)
  have v0 := (S2.out) 0 _ rfl; have v1 := (S2.out) 1 _ rfl; (try simp only [Nat.add_zero] at v0); (try simp only [Nat.zero_add] at v0 v1)
  have hz := L2.out.lt rfl
  have hz2 := S2.out.lt rfl
  go_wp2_with fail
  refine (aw_a _ _ _ (rows_new2 w2 (⟨6, 0, 5⟩ : Dv) ⟨7, 0, 8⟩ encD_len 56 2)).mono ?_
  rintro e w3 ⟨va, rfl, ra, g3⟩
  have G3 : Aside (Gr w w3) := (Gr.alloc G2.out _).trans g3
  have L3 := Lib.hid (L2.out.gr ((Gr.alloc (Gr.refl _) _).trans g3))
  have RF3 := Lib.hid (RF.out.gr ((Gr.alloc (Gr.refl _) _).trans g3))
  have RA := Lib.hid ra
  clear g3 L2 S2 u0 u1 u2 u3 u4 u5 u6 v0 v1 hz hz2 ra RF
  have u0 := (L3.out) 0 _ rfl; have u1 := (L3.out) 1 _ rfl; have u2 := (L3.out) 2 _ rfl; have u3 := (L3.out) 3 _ rfl; have u4 := (L3.out) 4 _ rfl; have u5 := (L3.out) 5 _ rfl; have u6 := (L3.out) 6 _ rfl; (try simp only [Nat.add_zero] at u0); (try simp only [Nat.zero_add] at u0 u1 u2 u3 u4 u5 u6)
  have hz := L3.out.lt rfl
  go_wp2_with fail
  refine (aw_s _).mono ?_
  rintro e w4 ⟨vs, rfl, rs, g4⟩
  have G4 : Aside (Gr w w4) := G3.out.trans g4
  have RF4 := Lib.hid (RF3.out.gr g4)
  have RA4 := Lib.hid (RA.out.gr g4)
  have RS := Lib.hid rs
  clear g4 L3 u0 u1 u2 u3 u4 u5 u6 hz rs RF3 RA
  rcases RF4.out with ⟨h, _⟩ | ⟨bf', of', cf, hbf, rfl, hcf⟩
  · cases h
  rcases RA4.out with ⟨h, _⟩ | ⟨ba, oa, ca, hba, rfl, hca⟩
  · cases h
  rcases RS.out with ⟨h, _⟩ | ⟨bs, os, cs, hbs, rfl, hcs⟩
  · cases h
  have f0 := hcf 1 _ rfl 0 _ rfl
  have f1 := hcf 1 _ rfl 1 _ rfl
  have f2 := hcf 1 _ rfl 2 _ rfl
  have f3 := hcf 1 _ rfl 3 _ rfl
  have f4 := hcf 1 _ rfl 4 _ rfl
  have f5 := hcf 1 _ rfl 5 _ rfl
  have a8 := hca 8 _ rfl 0 _ rfl
  have a9 := hca 9 _ rfl 0 _ rfl
  have p0 := hcs 5 _ rfl 0 _ rfl
  have p1 := hcs 5 _ rfl 1 _ rfl
  simp only [List.length_cons, List.length_nil, Nat.zero_add, Nat.add_zero, Nat.one_mul] at f0 f1 f2 f3 f4 f5 a8 a9 p0 p1 ⊢
  have q1 := fun W (a b : Fl) => eql_fl W a b
  have q2 := fun W (a b : Sp) => eql_sp W a b
  clear hcf hca hcs RF4 RA4 RS
  go_wp2_with fail
  go_ret
  exact ⟨by first | rfl | simp, G4.out⟩
end Go.Proofs.Ytckkjiaoaeaaoaa

/- The statement LoopEarlier is proved: for every input the law returns true and nothing that was there has turned. No condition. -/
import Derived.Test.YtckkjiaoaeaaoaaRows
import Derived.Test.YtckkjiaoaeaaoaaLoopEarlierWalk
import Derived.Test.YtckkjiaoaeaaoaaOpenRow
import Derived.Test.YtckkjiaoaeaaoaaLeaf
import Derived.WalkKit
import Derived.ProofKit
import Derived.OpenShut
import Derived.ChangeOld
import Derived.Below
namespace Go.Proofs.Ytckkjiaoaeaaoaa.loopEarlier
open Go.ChangeShapes Go.WideShapes Go.ChangeAt Go.RowKit
set_option linter.unusedVariables false

theorem own : ownKnob Try.prog.godebug = none := by kernel_rfl
theorem laidOut : laidOutB Try.prog = true := by kernel_rfl

set_option maxRecDepth 100000 in
theorem lifted (os : Os) (started : os.Started) (H : Type) (enc : TypeId × Value → H) :
    ReturnsInHanded {} Try.checked os 9 .any (Rows.loopEarlierSpec.pre6 enc Try.prog Try.f9 Rows.loopEarlierRow.domain false) (Rows.loopEarlierSpec.post enc Try.prog Try.f9 false true false false) := by
  refine returnsInHanded_of_change (C := Try.checked) own started (by kernel_rfl) Try.func9
    (ChangeSpec.witness6 (enc := enc) (C := Try.checked) false ⟨#[], #[.agg #[.int .i64 0, .int .i64 0, .int .i64 0, .int .i64 0, .int .i64 0, .int .i64 0, .int .i64 0], .agg #[.int .i64 0, .int .i64 0], .slice none 0 0, .int .u8 0, .int .u8 0], []⟩ 8 (by kernel_rfl) (by kernel_rfl) (by kernel_rfl) (by kernel_rfl)) ?_
  intro W base args ds gs before hval0 hW hcnd _
  have hval : ∀ (j : Nat) t v, Try.f9.params[j]? = some t → args[j]? = some v → Value.okWide Try.prog W .any base t v := hval0
  have hW' := hW
  obtain ⟨p, q, hA0, hV, rfl, hfz, hnd⟩ := hW
  have hA : DataW.TrodAll enc Try.prog W 0 (fun _ => true) true Try.f9.params.toList args.toList ds p := hA0
  rw [Try.params9] at hA hval
  obtain ⟨v0, vs0, d0, ds0, p0, q0, hargs, rfl, rfl, h0, r0⟩ := trodAll_cons hA
  obtain ⟨v1, vs1, d1, ds1, p1, q1, rfl, rfl, rfl, h1, r1⟩ := trodAll_cons r0
  obtain ⟨v2, vs2, d2, ds2, p2, q2, rfl, rfl, rfl, h2, r2⟩ := trodAll_cons r1
  obtain ⟨v3, vs3, d3, ds3, p3, q3, rfl, rfl, rfl, h3, r3⟩ := trodAll_cons r2
  obtain ⟨v4, vs4, d4, ds4, p4, q4, rfl, rfl, rfl, h4, r4⟩ := trodAll_cons r3
  obtain ⟨rfl, rfl, rfl⟩ := trodAll_nil r4
  obtain rfl : args = #[v0, v1, v2, v3, v4] := by cases args; simp_all
  obtain ⟨rfl, rfl⟩ := trodVars_none hV
  have k0 := h0
  have lt0 : ∀ x ∈ p0, x.block < W.heap.size := by obtain ⟨m, hm⟩ := k0; exact DataW.trod_lt m _ _ _ hm
  have k1 := h1
  have lt1 : ∀ x ∈ p1, x.block < W.heap.size := by obtain ⟨m, hm⟩ := k1; exact DataW.trod_lt m _ _ _ hm
  have k2 := h2
  have lt2 : ∀ x ∈ p2, x.block < W.heap.size := by obtain ⟨m, hm⟩ := k2; exact DataW.trod_lt m _ _ _ hm
  have k3 := h3
  have lt3 : ∀ x ∈ p3, x.block < W.heap.size := by obtain ⟨m, hm⟩ := k3; exact DataW.trod_lt m _ _ _ hm
  have k4 := h4
  have lt4 : ∀ x ∈ p4, x.block < W.heap.size := by obtain ⟨m, hm⟩ := k4; exact DataW.trod_lt m _ _ _ hm
  obtain ⟨cs0, rfl, al0⟩ := Leaf.open_value (n := 6) (ks := [some .i64, some .i64, some .i64, some .i64, some .i64, some .i64, some .i64]) (by kernel_rfl) (.inl ⟨_, Try.underlying23⟩) (hval 0 23 v0 rfl rfl) h0
  obtain ⟨l0, u0_0, rfl, wl0, al0⟩ := al0.int
  obtain ⟨l1, u0_1, rfl, wl1, al0⟩ := al0.int
  obtain ⟨l2, u0_2, rfl, wl2, al0⟩ := al0.int
  obtain ⟨l3, u0_3, rfl, wl3, al0⟩ := al0.int
  obtain ⟨l4, u0_4, rfl, wl4, al0⟩ := al0.int
  obtain ⟨l5, u0_5, rfl, wl5, al0⟩ := al0.int
  obtain ⟨l6, u0_6, rfl, wl6, al0⟩ := al0.int
  obtain rfl := al0.nil
  obtain ⟨cs1, rfl, al1⟩ := Leaf.open_value (n := 6) (ks := [some .i64, some .i64]) (by kernel_rfl) (.inl ⟨_, Try.underlying25⟩) (hval 1 25 v1 rfl rfl) h1
  obtain ⟨s0, u1_0, rfl, ws0, al1⟩ := al1.int
  obtain ⟨s1, u1_1, rfl, ws1, al1⟩ := al1.int
  obtain rfl := al1.nil
  obtain ⟨d, rd, bd, kd, wd⟩ := Leaf.open_rows (n := 6) (ks := [some .i64, some .i64, some .i64]) 3 encD okDw Try.underlying33 (by kernel_rfl) (by kernel_rfl) (by decide) encD_len openDw (hval 2 33 v2 rfl rfl) h2
  obtain ⟨which, rfl, _, _, wwhich⟩ := open_int Try.underlying5 (hval 3 5 v3 rfl rfl) h3
  obtain ⟨yy, rfl, _, _, wyy⟩ := open_int Try.underlying5 (hval 4 5 v4 rfl rfl) h4
  clear hA0 hval0
  refine (walk l0 l1 l2 l3 l4 l5 l6 s0 s1 v2 d which yy wl0 wl1 wl2 wl3 wl4 wl5 wl6 ws0 ws1 wwhich wyy W rd bd kd wd).mono fun e W' ⟨he, gr⟩ => ?_
  subst he
  have bel := gr.below
  exact ⟨_, rfl, _, _, _, [], _, [], hW', trodAll_mk1 (shut_bool Try.underlying4 _), (trodAll_cons_mk (Below.trod laidOut (by kernel_rfl) (of_decide_eq_true (by kernel_rfl)) k0 bel lt0) (trodAll_cons_mk (Below.trod laidOut (by kernel_rfl) (of_decide_eq_true (by kernel_rfl)) k1 bel lt1) (trodAll_cons_mk (Below.trod laidOut (by kernel_rfl) (of_decide_eq_true (by kernel_rfl)) k2 bel lt2) (trodAll_cons_mk (Below.trod laidOut (by kernel_rfl) (of_decide_eq_true (by kernel_rfl)) k3 bel lt3) (trodAll_cons_mk (Below.trod laidOut (by kernel_rfl) (of_decide_eq_true (by kernel_rfl)) k4 bel lt4) trodAll_mk0))))), rfl, bel.frame _, fun h => by cases h⟩

theorem proved : Rows.LoopEarlierSaid :=
  OpenClaim.holds_of_wide 9 Try.f9 rfl rfl rfl rfl rfl rfl rfl ⟨rfl, rfl, rfl, rfl, rfl⟩ rfl rfl rfl rfl rfl (by kernel_rfl) Try.func9 (by kernel_rfl)
    (of_decide_eq_true (by kernel_rfl)) (by unfold Func.isWrapper; first | (rw [if_pos (by decide +kernel)]; kernel_rfl) | (rw [if_neg (by decide +kernel)]; exact ⟨rfl, rfl⟩))
    (fun os started H enc _ => lifted os started H enc)

end Go.Proofs.Ytckkjiaoaeaaoaa.loopEarlier

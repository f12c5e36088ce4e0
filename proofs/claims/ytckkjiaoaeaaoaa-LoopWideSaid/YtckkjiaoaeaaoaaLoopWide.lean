/- The statement LoopWide is proved: for every input the law returns true and nothing that was there has turned. No condition. -/
import Derived.Test.YtckkjiaoaeaaoaaRows
import Derived.Test.YtckkjiaoaeaaoaaLoopWideWalk
import Derived.Test.YtckkjiaoaeaaoaaLeaf
import Derived.WalkKit
import Derived.ProofKit
import Derived.OpenShut
import Derived.ChangeOld
import Derived.Below
namespace Go.Proofs.Ytckkjiaoaeaaoaa.loopWide
open Go.ChangeShapes Go.WideShapes Go.ChangeAt Go.RowKit
set_option linter.unusedVariables false

theorem own : ownKnob Try.prog.godebug = none := by kernel_rfl
theorem laidOut : laidOutB Try.prog = true := by kernel_rfl

set_option maxRecDepth 100000 in
theorem lifted (os : Os) (started : os.Started) (H : Type) (enc : TypeId × Value → H) :
    ReturnsInHanded {} Try.checked os 6 .any (Rows.loopWideSpec.pre6 enc Try.prog Try.f6 Rows.loopWideRow.domain false) (Rows.loopWideSpec.post enc Try.prog Try.f6 false true false false) := by
  refine returnsInHanded_of_change (C := Try.checked) own started (by kernel_rfl) Try.func6
    (ChangeSpec.witness6 (enc := enc) (C := Try.checked) false ⟨#[], #[.agg #[.int .i64 0, .int .i64 0, .int .i64 0, .int .i64 0, .int .i64 0, .int .i64 0, .int .i64 0], .agg #[.int .i64 0, .int .i64 0]], []⟩ 8 (by kernel_rfl) (by kernel_rfl) (by kernel_rfl) (by kernel_rfl)) ?_
  intro W base args ds gs before hval0 hW hcnd _
  have hval : ∀ (j : Nat) t v, Try.f6.params[j]? = some t → args[j]? = some v → Value.okWide Try.prog W .any base t v := hval0
  have hW' := hW
  obtain ⟨p, q, hA0, hV, rfl, hfz, hnd⟩ := hW
  have hA : DataW.TrodAll enc Try.prog W 0 (fun _ => true) true Try.f6.params.toList args.toList ds p := hA0
  rw [Try.params6] at hA hval
  obtain ⟨v0, vs0, d0, ds0, p0, q0, hargs, rfl, rfl, h0, r0⟩ := trodAll_cons hA
  obtain ⟨v1, vs1, d1, ds1, p1, q1, rfl, rfl, rfl, h1, r1⟩ := trodAll_cons r0
  obtain ⟨rfl, rfl, rfl⟩ := trodAll_nil r1
  obtain rfl : args = #[v0, v1] := by cases args; simp_all
  obtain ⟨rfl, rfl⟩ := trodVars_none hV
  have k0 := h0
  have lt0 : ∀ x ∈ p0, x.block < W.heap.size := by obtain ⟨m, hm⟩ := k0; exact DataW.trod_lt m _ _ _ hm
  have k1 := h1
  have lt1 : ∀ x ∈ p1, x.block < W.heap.size := by obtain ⟨m, hm⟩ := k1; exact DataW.trod_lt m _ _ _ hm
  obtain ⟨cs0, rfl, al0⟩ := Leaf.open_value (n := 6) (ks := [some .i64, some .i64, some .i64, some .i64, some .i64, some .i64, some .i64]) (by kernel_rfl) (.inl ⟨_, Try.underlying23⟩) (hval 0 23 v0 rfl rfl) h0
  obtain ⟨l0, u0_0, rfl, wl0, al0⟩ := al0.int
  obtain ⟨l1, u0_1, rfl, wl1, al0⟩ := al0.int
  obtain ⟨l2, u0_2, rfl, wl2, al0⟩ := al0.int
  obtain ⟨l3, u0_3, rfl, wl3, al0⟩ := al0.int
  obtain ⟨l4, u0_4, rfl, wl4, al0⟩ := al0.int
  obtain ⟨l5, u0_5, rfl, wl5, al0⟩ := al0.int
  obtain ⟨l6, u0_6, rfl, wl6, al0⟩ := al0.int
  obtain rfl := al0.nil
  obtain ⟨cs1, rfl, al1⟩ := Leaf.open_value (n := 6) (ks := [some .i64, some .i64]) (by kernel_rfl) (.inl ⟨_, Try.underlying25⟩) (hval 1 25 v1 rfl rfl) h1
  obtain ⟨s0, u1_0, rfl, ws0, al1⟩ := al1.int
  obtain ⟨s1, u1_1, rfl, ws1, al1⟩ := al1.int
  obtain rfl := al1.nil
  clear hA0 hval0
  refine (walk l0 l1 l2 l3 l4 l5 l6 s0 s1 wl0 wl1 wl2 wl3 wl4 wl5 wl6 ws0 ws1 W ).mono fun e W' ⟨he, gr⟩ => ?_
  subst he
  have bel := gr.below
  exact ⟨_, rfl, _, _, _, [], _, [], hW', trodAll_mk1 (shut_bool Try.underlying4 _), (trodAll_cons_mk (Below.trod laidOut (by kernel_rfl) (of_decide_eq_true (by kernel_rfl)) k0 bel lt0) (trodAll_cons_mk (Below.trod laidOut (by kernel_rfl) (of_decide_eq_true (by kernel_rfl)) k1 bel lt1) trodAll_mk0)), rfl, bel.frame _, fun h => by cases h⟩

theorem proved : Rows.LoopWideSaid :=
  OpenClaim.holds_of_wide 6 Try.f6 rfl rfl rfl rfl rfl rfl rfl ⟨rfl, rfl, rfl, rfl, rfl⟩ rfl rfl rfl rfl rfl (by kernel_rfl) Try.func6 (by kernel_rfl)
    (of_decide_eq_true (by kernel_rfl)) (by unfold Func.isWrapper; first | (rw [if_pos (by decide +kernel)]; kernel_rfl) | (rw [if_neg (by decide +kernel)]; exact ⟨rfl, rfl⟩))
    (fun os started H enc _ => lifted os started H enc)

end Go.Proofs.Ytckkjiaoaeaaoaa.loopWide

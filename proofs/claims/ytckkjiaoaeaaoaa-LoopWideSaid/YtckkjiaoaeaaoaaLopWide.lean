/- The plain law of the wide splits; the law's predicates. -/
import Derived.Test.YtckkjiaoaeaaoaaLopI
import Derived.Test.YtckkjiaoaeaaoaaIndexP
import Derived.Test.YtckkjiaoaeaaoaaHeld
namespace Go.Proofs.Ytckkjiaoaeaaoaa
open Go.RowKit Go.Sort
set_option linter.unusedVariables false

namespace Lp
theorem sum_bd {l : Lo} (h : flt 32 l = 0) : (sum l ≤ l.pe ∧ sum l ≤ l.ag - l.pe + 1 ∧ (sum l = l.pe ∨ sum l = l.ag - l.pe + 1)) ∧ (1 ≤ l.pe ∧ l.pe ≤ 512) ∧ (1 ≤ l.ag ∧ l.ag ≤ 1024) ∧ (0 ≤ l.ph ∧ l.ph < l.pe) := by
  obtain ⟨⟨-, ⟨p1, p2⟩, ⟨p3, p4⟩, ⟨g1, g2⟩⟩, -⟩ := flt_inv h
  unfold sum
  omega
/-- a wide split, and one more -/
theorem wide_at {l : Lo} (h : flt 32 l = 0) {i : Nat} (hi : i < spN l) :
    rgt l (spA l i) = 0 ∧ (0 ≤ wst l (spA l i) ∧ wst l (spA l i) ≤ l.ag) ∧ rgt l ⟨(spA l i).s, (spA l i).a + 1⟩ = 11 ∧ (1 ≤ (spA l i).s ∧ (spA l i).s ≤ 512) ∧ (1 ≤ (spA l i).a ∧ (spA l i).a ≤ 512) := by
  obtain ⟨⟨s1, s2, s3⟩, ⟨p1, p2⟩, ⟨g1, g2⟩, -⟩ := sum_bd h
  unfold spN at hi
  refine ⟨rgt_ok h ?_, ?_, rgt_fit h ?_, ?_, ?_⟩
  · unfold fit spA; dsimp only; omega
  · unfold wst spA; dsimp only; omega
  · unfold fit spA; dsimp only; omega
  · unfold spA; dsimp only; omega
  · unfold spA; dsimp only; omega
/-- the phase behind the first part -/
theorem wide_mod {l : Lo} (h : flt 32 l = 0) {x : Int} (hx : 0 ≤ x) : 0 ≤ (l.ph + x) % l.pe ∧ (l.ph + x) % l.pe < l.pe ∧ (l.ph + x - (l.ph + x) % l.pe).tmod l.pe = 0 := by
  obtain ⟨-, ⟨p1, p2⟩, -, ⟨q1, q2⟩⟩ := sum_bd h
  refine ⟨Int.emod_nonneg _ (by omega), Int.emod_lt_of_pos _ (by omega), ?_⟩
  have e := Int.emod_add_mul_ediv (l.ph + x) l.pe
  have : l.ph + x - (l.ph + x) % l.pe = l.pe * ((l.ph + x) / l.pe) := by omega
  rw [this, Int.mul_tmod_right]
/-- what the split of a loop must be -/
def covB (s x : Sp) : Bool := decide (x.s = s.s ∧ s.a ≤ x.a)
theorem wide_cov {l : Lo} (s : Sp) (h : flt 32 l = 0) : (decide (rgt l s = 0)) = ((spl l).any (covB s) && decide (1 ≤ s.a)) := by
  obtain ⟨⟨s1, s2, s3⟩, ⟨p1, p2⟩, ⟨g1, g2⟩, -⟩ := sum_bd h
  rw [spl_ok h]
  by_cases hf : fit l s
  · have hf' := hf
    unfold fit at hf'
    rw [decide_eq_true (rgt_ok h hf), decide_eq_true (show 1 ≤ s.a by omega), Bool.and_true]
    symm
    rw [List.any_eq_true]
    refine ⟨spA l (s.s - 1).toNat, List.mem_map.2 ⟨(s.s - 1).toNat, List.mem_range.2 (by unfold spN; omega), rfl⟩, decide_eq_true ?_⟩
    unfold spA
    dsimp only
    omega
  · rw [decide_eq_false (show ¬ rgt l s = 0 by rw [rgt_fit h hf]; decide)]
    symm
    rw [Bool.and_eq_false_iff]
    by_cases ha : 1 ≤ s.a
    · left
      rw [List.any_eq_false]
      intro x hx hc
      obtain ⟨i, hi, rfl⟩ := List.mem_map.1 hx
      rw [List.mem_range] at hi
      unfold spN at hi
      have hc2 := of_decide_eq_true hc
      unfold spA at hc2
      dsimp only at hc2
      apply hf
      unfold fit
      omega
    · right; exact decide_eq_false ha
theorem spl_length {l : Lo} (h : flt 32 l = 0) : (spl l).length = spN l := by rw [spl_ok h]; simp
theorem spl_get {l : Lo} (h : flt 32 l = 0) {i : Nat} (hi : i < spN l) : (spl l)[i]? = some (spA l i) := by
  rw [spl_ok h, List.getElem?_map, List.getElem?_range hi]; rfl
theorem spN_bd {l : Lo} (h : flt 32 l = 0) : spN l ≤ 512 := by
  obtain ⟨⟨s1, s2, s3⟩, ⟨p1, p2⟩, -⟩ := sum_bd h
  unfold spN; omega
end Lp

set_option maxHeartbeats 1000000 in
theorem wide1_any (s x : Sp) (b : Nat) (w : World) (h : At encP w b 0 s) :
    Calls Try.prog 24 #[.agg #[.int .i64 x.s, .int .i64 x.a], .pointer (some ⟨b, 0, none⟩)] w fun e w' => e = .returned (.bool (Lp.covB s x)) ∧ Gr w w' := by
  have v0 := (h) 0 _ rfl; have v1 := (h) 1 _ rfl; (try simp only [Nat.add_zero] at v0); (try simp only [Nat.zero_add] at v0 v1)
  have hlt := h.lt rfl
  have G1 : Aside (Gr w (w.alloc (Obj.cells (encP x).toArray 25))) := Gr.alloc (Gr.refl _) _
  by_cases q : x.s = s.s
  · have b1 : (x.s == s.s) = true := by simpa using q
    have D : Hid (decide (s.a ≤ x.a) = Lp.covB s x) := (show _ = _ by unfold Lp.covB; simp only [q, true_and])
    clear q h
    go_enter Try.func24, Try.ntmps24
    go_wp2_with fail
    go_ret
    exact ⟨ret_bool D.out, (by have hgg := G1.out; (repeat (first | assumption | exact And.left (by assumption) | exact Gr.refl _ | refine Gr.drew ?_ | refine Gr.alloc ?_ _ | refine Gr.setCell ?_ (by first | exact Nat.le_refl _ | omega) _ | refine Gr.trans ?_ (by assumption))))⟩
  · have b1 : (x.s == s.s) = false := by simpa using q
    have D : Hid (false = Lp.covB s x) := (show _ = _ by unfold Lp.covB; simp only [q, false_and, decide_false])
    clear q h
    go_enter Try.func24, Try.ntmps24
    go_wp2_with fail
    go_ret
    exact ⟨ret_bool D.out, (by have hgg := G1.out; (repeat (first | assumption | exact And.left (by assumption) | exact Gr.refl _ | refine Gr.drew ?_ | refine Gr.alloc ?_ _ | refine Gr.setCell ?_ (by first | exact Nat.le_refl _ | omega) _ | refine Gr.trans ?_ (by assumption))))⟩
theorem wide_all (s : Sp) (b : Nat) (v : Value) (l : List Sp) (w : World) (h : Rows 2 encP w v l) (hs : At encP w b 0 s) (hb : (l.length : Int) ≤ 4611686018427387904) :
    Calls Try.prog 23 #[v, .func (.func 24) #[] #[.pointer (some ⟨b, 0, none⟩)]] w
      fun e w' => e = .returned (.bool (l.any (Lp.covB s))) ∧ Gr w w' := by
  refine containsP_any 24 #[.pointer (some ⟨b, 0, none⟩)] (Lp.covB s) v l _ h hb (enters_of Try.func24 (by kernel_rfl) rfl) ?_
  intro W i x g _
  have key := wide1_any s x b W (hs.gr g)
  exact key
end Go.Proofs.Ytckkjiaoaeaaoaa

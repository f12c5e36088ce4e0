/- What LoopEarlier wants: its predicate; the deliveries of which one is made earlier. -/
import Derived.Test.YtckkjiaoaeaaoaaLopFew
import Derived.Test.YtckkjiaoaeaaoaaIndexD
import Derived.Test.YtckkjiaoaeaaoaaCloneD
import Derived.Test.YtckkjiaoaeaaoaaOpenRow
import Derived.Test.YtckkjiaoaeaaoaaHeld
namespace Go.Proofs.Ytckkjiaoaeaaoaa
open Go.RowKit Go.Sort
set_option linter.unusedVariables false

def okDw (x : Dv) : Prop := -9223372036854775808 ≤ x.t ∧ x.t ≤ 9223372036854775807
theorem openDw (cs : List Value) (h : Leaf.All [some .i64, some .i64, some .i64] cs) : ∃ x, cs = encD x ∧ okDw x := by
  obtain ⟨a, u, rfl, _, h⟩ := h.int
  obtain ⟨b, u, rfl, _, h⟩ := h.int
  obtain ⟨c, u, rfl, wc, h⟩ := h.int
  obtain rfl := h.nil
  exact ⟨⟨a, b, c⟩, rfl, bounds_i64 wc⟩
namespace Lp
/-- one frame of one flow -/
def twin (x y : Dv) : Bool := decide (y.f = x.f ∧ y.r = x.r)
/-- each of the first k frames once, and with a number that serves -/
def once (ds : List Dv) (k : Nat) : Prop := ∀ j y, j < k → ds[j]? = some y → (0 ≤ y.r ∧ y.r ≤ 1048576) ∧ ∀ i x, i < j → ds[i]? = some x → ¬ (x.f = y.f ∧ x.r = y.r)
theorem once_zero (ds : List Dv) : once ds 0 := fun j y h => absurd h (Nat.not_lt_zero _)
theorem once_step {ds : List Dv} {k : Nat} {y : Dv} (h : once ds k) (hy : ds[k]? = some y) (h0 : 0 ≤ y.r) (h1 : y.r ≤ 1048576) (ha : (ds.take k).any (twin y) = false) : once ds (k + 1) := by
  intro j z hj hz
  by_cases e : j = k
  · subst e
    rw [hy] at hz
    cases hz
    refine ⟨⟨h0, h1⟩, fun i x hi hx hc => ?_⟩
    rw [List.any_eq_false] at ha
    exact ha x (List.mem_of_getElem? (i := i) (by rw [List.getElem?_take, if_pos hi]; exact hx)) (decide_eq_true hc)
  · exact h j z (by omega) hz
theorem once_dist {ds : List Dv} (h : once ds ds.length) : dist ds := fun i j x y hij hx hy => (h j y (List.getElem?_eq_some_iff.1 hy).1 hy).2 i x hij hx
/-- the slot of the delivery behind the first k flows -/
def erT (a b : Fl) (d : Dv) (y : Int) : Nat → Int
  | 0 => d.t
  | 1 => er a d y d.t
  | _ => er b d y (er a d y d.t)
theorem erT_step {a b f : Fl} {d : Dv} {y : Int} {k : Nat} (hf : ([a, b] : List Fl)[k]? = some f) : erT a b d y (k + 1) = er f d y (erT a b d y k) := by
  match k, hf with
  | 0, hf => cases hf; rfl
  | 1, hf => cases hf; rfl
  | k + 2, hf => simp at hf
/-- the ages do not grow -/
theorem ear_age {l : Lo} {s : Sp} {ds : List Dv} {i : Nat} {d : Dv} {y : Int} (hr : rgt l s = 0) (hd : dist ds) (hi : ds[i]? = some d) (hy : 0 ≤ y) (k : Nat)
    (h : 0 ≤ age (fa l s) (fb l s) ds k) : 0 ≤ age (fa l s) (fb l s) (ds.set i ⟨d.f, d.r, erT (fa l s) (fb l s) d y 2⟩) k ∧ age (fa l s) (fb l s) (ds.set i ⟨d.f, d.r, erT (fa l s) (fb l s) d y 2⟩) k ≤ age (fa l s) (fb l s) ds k := by
  have ne : (fa l s).id ≠ (fb l s).id := by show 2 * l.id ≠ 2 * l.id + 1; omega
  have r0 : ∀ f, Fw.chk 32 f = 0 → ∀ k, 0 ≤ k → 0 ≤ rl f k := fun f hf k hk => by
    obtain ⟨ho, -⟩ := Fw.chk_inv hf
    obtain ⟨_, p1, p2, p3, p4, _⟩ := ho
    have := Int.mul_nonneg hk (show 0 ≤ f.pe by omega)
    unfold rl; omega
  obtain ⟨⟨⟨-, ⟨p1, p2⟩, -⟩, -⟩, -⟩ := rgt_inv hr
  refine age_soon (show 0 ≤ l.pe by omega) ?_ ?_ k h
  · exact soon_set hd hi (fun hu => er_use ne hy _ (.inl rfl) (r0 _ (fa_ok hr)) hu)
  · exact soon_set hd hi (fun hu => er_use ne hy _ (.inr rfl) (r0 _ (fb_ok hr)) hu)
end Lp

set_option maxHeartbeats 1000000 in
theorem ear1_any (x y : Dv) (b : Nat) (w : World) (h : At encD w b 0 x) :
    Calls Try.prog 29 #[.agg #[.int .i64 y.f, .int .i64 y.r, .int .i64 y.t], .pointer (some ⟨b, 0, none⟩)] w fun e w' => e = .returned (.bool (Lp.twin x y)) ∧ Gr w w' := by
  have v0 := (h) 0 _ rfl; have v1 := (h) 1 _ rfl; have v2 := (h) 2 _ rfl; (try simp only [Nat.add_zero] at v0); (try simp only [Nat.zero_add] at v0 v1 v2)
  have hlt := h.lt rfl
  have G1 : Aside (Gr w (w.alloc (Obj.cells (encD y).toArray 56))) := Gr.alloc (Gr.refl _) _
  by_cases q : y.f = x.f
  · have b1 : (y.f == x.f) = true := by simpa using q
    by_cases q2 : y.r = x.r
    · have b2 : (y.r == x.r) = true := by simpa using q2
      have D : Hid (true = Lp.twin x y) := (show _ = _ by unfold Lp.twin; simp only [q, q2, true_and, decide_true])
      clear q q2 h
      go_enter Try.func29, Try.ntmps29
      go_wp2_with fail
      go_ret
      exact ⟨ret_bool D.out, (by have hgg := G1.out; (repeat (first | assumption | exact And.left (by assumption) | exact Gr.refl _ | refine Gr.drew ?_ | refine Gr.alloc ?_ _ | refine Gr.setCell ?_ (by first | exact Nat.le_refl _ | omega) _ | refine Gr.trans ?_ (by assumption))))⟩
    · have b2 : (y.r == x.r) = false := by simpa using q2
      have D : Hid (false = Lp.twin x y) := (show _ = _ by unfold Lp.twin; simp only [q2, and_false, decide_false])
      clear q q2 h
      go_enter Try.func29, Try.ntmps29
      go_wp2_with fail
      go_ret
      exact ⟨ret_bool D.out, (by have hgg := G1.out; (repeat (first | assumption | exact And.left (by assumption) | exact Gr.refl _ | refine Gr.drew ?_ | refine Gr.alloc ?_ _ | refine Gr.setCell ?_ (by first | exact Nat.le_refl _ | omega) _ | refine Gr.trans ?_ (by assumption))))⟩
  · have b1 : (y.f == x.f) = false := by simpa using q
    have D : Hid (false = Lp.twin x y) := (show _ = _ by unfold Lp.twin; simp only [q, false_and, decide_false])
    clear q h
    go_enter Try.func29, Try.ntmps29
    go_wp2_with fail
    go_ret
    exact ⟨ret_bool D.out, (by have hgg := G1.out; (repeat (first | assumption | exact And.left (by assumption) | exact Gr.refl _ | refine Gr.drew ?_ | refine Gr.alloc ?_ _ | refine Gr.setCell ?_ (by first | exact Nat.le_refl _ | omega) _ | refine Gr.trans ?_ (by assumption))))⟩
theorem ear_all (x : Dv) (b : Nat) (v : Value) (l : List Dv) (w : World) (h : Rows 3 encD w v l) (hs : At encD w b 0 x) (hb : (l.length : Int) ≤ 4611686018427387904) :
    Calls Try.prog 28 #[v, .func (.func 29) #[] #[.pointer (some ⟨b, 0, none⟩)]] w
      fun e w' => e = .returned (.bool (l.any (Lp.twin x))) ∧ Gr w w' := by
  refine containsD_any 29 #[.pointer (some ⟨b, 0, none⟩)] (Lp.twin x) v l _ h hb (enters_of Try.func29 (by kernel_rfl) rfl) ?_
  intro W i y g _
  have key := ear1_any x y b W (hs.gr g)
  exact key
end Go.Proofs.Ytckkjiaoaeaaoaa

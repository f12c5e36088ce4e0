/- Worlds that have only grown: some draws were made and some blocks were laid behind what was there; nothing that was there has turned. No condition. -/
import Derived.WalkKit
import Derived.WalkSpells
import Derived.Sort.Grow
import Derived.Deep.Draws
import Derived.Shelf.SlSortCmp.QuietGrown
import Derived.BigQuiet
import Derived.Lib.Hide
namespace Go.Proofs.Ytjiaemmhjkhdhaa
open Go.RowKit Go.Sort

/-- w' is w with some draws made and some blocks laid behind it -/
def Gr (w w' : World) : Prop := ∃ q os, w' = grow (w.drewN q) os

theorem Gr.refl (w : World) : Gr w w := ⟨0, #[], by rw [grow_empty]; rfl⟩
theorem Gr.trans {a b c : World} (h : Gr a b) (k : Gr b c) : Gr a c := by
  obtain ⟨q, os, rfl⟩ := h
  obtain ⟨r, os', rfl⟩ := k
  exact ⟨q + r, os ++ os', by show grow (grow ((a.drewN q).drewN r) os) os' = _; rw [grow_grow, World.drewN_drewN]⟩
theorem Gr.alloc {a b : World} (h : Gr a b) (o : Obj) : Gr a (b.alloc o) := h.trans ⟨0, #[o], alloc_eq_grow b o⟩
theorem Gr.drew {a b : World} (h : Gr a b) : Gr a b.drew := h.trans ⟨1, #[], by rw [grow_empty]; rfl⟩
theorem Gr.drewN {a b : World} (h : Gr a b) (n : Nat) : Gr a (b.drewN n) := h.trans ⟨n, #[], by rw [grow_empty]⟩
theorem Gr.grown {a b : World} (h : Gr a b) (n : Nat) (os : Array Obj) : Gr a (grow (b.drewN n) os) := h.trans ⟨n, os, rfl⟩
theorem Gr.size {a b : World} (h : Gr a b) : a.heap.size ≤ b.heap.size := by
  obtain ⟨q, os, rfl⟩ := h
  simp
theorem Gr.cell {a b : World} (h : Gr a b) {p : Addr} (hp : p.block < a.heap.size) : b.cell? p = a.cell? p := by
  obtain ⟨q, os, rfl⟩ := h
  rw [cell?_grow _ _ _ (by exact hp)]
  rfl
theorem Gr.frozen {a b : World} (h : Gr a b) {p : Addr} (hp : p.block < a.heap.size) : b.frozen? p = a.frozen? p := by
  obtain ⟨q, os, rfl⟩ := h
  rw [frozen?_grow _ _ _ (by exact hp)]
  rfl
theorem Gr.below {a b : World} (h : Gr a b) : Below a.heap.size a b := by
  obtain ⟨q, os, rfl⟩ := h
  refine ⟨rfl, rfl, rfl, by simp, fun k hk => ?_⟩
  rw [heap_grow_old _ _ (by exact hk)]
  rfl
theorem Gr.setCell {a b : World} (h : Gr a b) {p : Addr} (hp : a.heap.size ≤ p.block) (v : Value) : Gr a (b.setCell p v) := by
  obtain ⟨q, os, rfl⟩ := h
  exact ⟨q, _, congrArg (fun h => ({ a.drewN q with heap := h } : World)) (modify_append_right (a.drewN q).heap os p.block _ (by exact hp))⟩
/-- the two rules on old cells -/
theorem Gr.rules {W w1 : World} (h : Gr W w1) : (∀ b o, b < W.heap.size → w1.cell? ⟨b, o, none⟩ = W.cell? ⟨b, o, none⟩) ∧ (∀ b o, b < W.heap.size → w1.frozen? ⟨b, o, none⟩ = W.frozen? ⟨b, o, none⟩) :=
  ⟨fun _ _ hb => h.cell hb, fun _ _ hb => h.frozen hb⟩
theorem Gr.of_below {a b : World} (h : Below a.heap.size a b) (hd : a.drawn ≤ b.drawn) : Gr a b := by
  refine ⟨b.drawn - a.drawn, b.heap.extract a.heap.size b.heap.size, ?_⟩
  obtain ⟨h1, h2, h3, h4, h5⟩ := h
  cases b with
  | mk bh bt bd bo bu =>
    cases a with
    | mk ah at' ad ao au =>
      simp only at h1 h2 h3 h4 h5 hd
      subst h1 h2 h3
      simp only [grow, World.drewN, World.mk.injEq, true_and, and_true]
      refine ⟨?_, by omega⟩
      apply Array.ext_getElem?
      intro k
      rw [Array.getElem?_append]
      split
      · rw [h5 k (by assumption)]
      · rw [Array.getElem?_extract]
        by_cases hk : k < bh.size
        · rw [if_pos (by omega)]; congr 1; omega
        · rw [if_neg (by omega), Array.getElem?_eq_none (by omega)]
end Go.Proofs.Ytjiaemmhjkhdhaa

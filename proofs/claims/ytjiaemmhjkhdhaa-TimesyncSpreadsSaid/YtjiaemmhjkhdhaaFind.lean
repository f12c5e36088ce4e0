/- Where a predicate first holds in a list. No condition. -/
namespace Go.Proofs.Ytjiaemmhjkhdhaa

def ixL {α : Type} (p : α → Bool) (l : List α) : Int := if l.any p then (l.findIdx p : Int) else -1
theorem ixL_hit {α : Type} {p : α → Bool} {l : List α} {k : Nat} {x : α} (hk : l[k]? = some x) (hp : p x = true) (h : ∀ j, j < k → ∀ y, l[j]? = some y → p y = false) : ixL p l = k ∧ l.any p = true := by
  obtain ⟨hl, hx⟩ := List.getElem?_eq_some_iff.1 hk
  have ha : l.any p = true := List.any_eq_true.2 ⟨x, List.mem_of_getElem? hk, hp⟩
  refine ⟨?_, ha⟩
  have hf : l.findIdx p = k := (List.findIdx_eq hl).2 ⟨by rw [hx]; exact hp, fun j hj => h j hj _ (List.getElem?_eq_getElem (by omega))⟩
  unfold ixL; rw [if_pos ha, hf]
theorem ixL_miss {α : Type} {p : α → Bool} {l : List α} (h : ∀ j, j < l.length → ∀ y, l[j]? = some y → p y = false) : ixL p l = -1 ∧ l.any p = false := by
  have ha : l.any p = false := by
    rw [List.any_eq_false]
    intro x hx
    obtain ⟨j, hj, rfl⟩ := List.getElem_of_mem hx
    have := h j hj _ (List.getElem?_eq_getElem hj)
    rw [this]; simp
  refine ⟨?_, ha⟩
  unfold ixL; rw [if_neg (by rw [ha]; simp)]
end Go.Proofs.Ytjiaemmhjkhdhaa

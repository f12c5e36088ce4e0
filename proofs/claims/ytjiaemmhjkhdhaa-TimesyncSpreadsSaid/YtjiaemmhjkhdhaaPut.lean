/- A store of one cell of an element into a row of the call's own. No condition. -/
import Derived.Test.YtjiaemmhjkhdhaaRow
import Derived.Laws.OwnMore
namespace Go.Proofs.Ytjiaemmhjkhdhaa
open Go.RowKit Go.Sort

theorem flat_put {α : Type} {enc : α → List Value} {k : Nat} (hk : ∀ x, (enc x).length = k) {x x' : α} {j : Nat} {u : Value} (hj : j < k) (he : enc x' = (enc x).set j u) : ∀ (l : List α) (i : Nat), l[i]? = some x → ((l.map enc).flatten).set (i * k + j) u = ((l.set i x').map enc).flatten
  | [], i, h => by simp at h
  | a :: l, 0, h => by
    simp only [List.getElem?_cons_zero, Option.some.injEq] at h
    subst h
    simp only [List.set_cons_zero, List.map_cons, List.flatten_cons, Nat.zero_mul, Nat.zero_add, he]
    rw [List.set_append_left _ _ (by rw [hk]; exact hj)]
  | a :: l, i + 1, h => by
    simp only [List.getElem?_cons_succ] at h
    simp only [List.set_cons_succ, List.map_cons, List.flatten_cons]
    rw [List.set_append_right _ _ (by rw [hk, Nat.add_mul]; omega), hk, show (i + 1) * k + j - k = i * k + j by rw [Nat.add_mul]; omega, flat_put hk hj he l i h]

/-- one cell of an element is stored -/
theorem owns_put {α : Type} {enc : α → List Value} {k : Nat} {w : World} {base e g n cap : Nat} {l : List α} {x x' : α} {i j : Nat} {u : Value} (hk : ∀ x, (enc x).length = k) (h : w.ownsRow base e k (.slice (some ⟨g, 0, none⟩) n cap) n ((l.map enc).flatten)) (hx : l[i]? = some x) (hj : j < k) (he : enc x' = (enc x).set j u) :
    (w.setCell ⟨g, i * k + j, none⟩ u).ownsRow base e k (.slice (some ⟨g, 0, none⟩) n cap) n (((l.set i x').map enc).flatten) := by
  have h1 := (h.stored (i * k + j) u).1
  rwa [flat_put hk hj he l i hx] at h1
/-- a cell of an element of a row of the call's own -/
theorem owns_cell {α : Type} {enc : α → List Value} {k : Nat} {w : World} {base e g n cap : Nat} {l : List α} {x : α} {i j : Nat} {u : Value} (hk : ∀ x, (enc x).length = k) (h : w.ownsRow base e k (.slice (some ⟨g, 0, none⟩) n cap) n ((l.map enc).flatten)) (hx : l[i]? = some x) (hu : (enc x)[j]? = some u) : w.cell? ⟨g, i * k + j, none⟩ = some u := by
  have hj : j < k := by
    have := (List.getElem?_eq_some_iff.1 hu).1
    rwa [hk] at this
  have hl : i * k + j < ((l.map enc).flatten).length := by
    rw [flat_len hk]
    have := (List.getElem?_eq_some_iff.1 hx).1
    calc i * k + j < i * k + k := by omega
      _ = (i + 1) * k := by rw [Nat.add_mul]; omega
      _ ≤ l.length * k := Nat.mul_le_mul_right _ this
  have := h.cells (g := g) rfl (i * k + j) u (by rw [flat_get hk l i j x hx hj]; exact hu)
  rw [Addr.add_lit, Nat.zero_add] at this
  exact this
theorem owns_set0 {α : Type} {enc : α → List Value} {k : Nat} {w : World} {base e n : Nat} {v : Value} {l : List α} {x : α} {i : Nat} (h : w.ownsRow base e k v n ((l.map enc).flatten)) (hx : l[i]? = some x) : w.ownsRow base e k v n (((l.set i x).map enc).flatten) := by
  have : l.set i x = l := by
    apply List.ext_getElem?
    intro j
    rw [List.getElem?_set]
    have hl := (List.getElem?_eq_some_iff.1 hx).1
    by_cases e : i = j
    · subst e; rw [if_pos rfl, if_pos hl, hx]
    · rw [if_neg e]
  rwa [this]
/-- one more cell of the same element -/
theorem owns_put2 {α : Type} {enc : α → List Value} {k : Nat} {w : World} {base e g n cap : Nat} {l : List α} {x : α} {i : Nat} (hk : ∀ x, (enc x).length = k) (h : w.ownsRow base e k (.slice (some ⟨g, 0, none⟩) n cap) n (((l.set i x).map enc).flatten)) (hi : i < l.length) (j : Nat) (u : Value) (x' : α) (hj : j < k) (he : enc x' = (enc x).set j u) :
    (w.setCell ⟨g, i * k + j, none⟩ u).ownsRow base e k (.slice (some ⟨g, 0, none⟩) n cap) n (((l.set i x').map enc).flatten) := by
  have h2 := owns_put hk h (i := i) (x := x) (by rw [List.getElem?_set, if_pos rfl, if_pos hi]) hj he
  rwa [List.set_set] at h2
theorem owns_rows {α : Type} {enc : α → List Value} {k : Nat} {w : World} {base e n : Nat} {v : Value} {l : List α} (hk : ∀ x, (enc x).length = k) (h : w.ownsRow base e k v n ((l.map enc).flatten)) (hn : l.length = n) : Rows k enc w v l := by
  subst hn
  exact Rows.of_owns hk h
end Go.Proofs.Ytjiaemmhjkhdhaa

/- The cells of a usage and of a table's cell, opened. No condition. -/
import Derived.Test.YtkhanjhjcfhhiaaAlcRow
import Derived.Test.YtkhanjhjcfhhiaaOpenRow
namespace Go.Proofs.Ytkhanjhjcfhhiaa
open Go.RowKit

def okUs (x : Us) : Prop := x = x
theorem openU (cs : List Value) (h : Leaf.All [some .i64, some .i64, some .i64, none, some .i64, some .i64, some .i64, some .i64, some .i64] cs) : ∃ x, cs = encU x ∧ okUs x := by
  obtain ⟨a, u, rfl, _, h⟩ := h.int
  obtain ⟨b, u, rfl, _, h⟩ := h.int
  obtain ⟨c, u, rfl, _, h⟩ := h.int
  obtain ⟨d, u', rfl, h4⟩ := h.bool
  obtain ⟨e, u, rfl, _, h⟩ := h4.int
  obtain ⟨f, u, rfl, _, h⟩ := h.int
  obtain ⟨g, u, rfl, _, h⟩ := h.int
  obtain ⟨i, u, rfl, _, h⟩ := h.int
  obtain ⟨j, u, rfl, _, h⟩ := h.int
  obtain rfl := h.nil
  exact ⟨⟨⟨a, b, c, d, e, f⟩, g, i, j⟩, rfl, rfl⟩
def okCl (x : Cl) : Prop := x = x
theorem openC (cs : List Value) (h : Leaf.All [some .i64, some .i64, some .i64, none, some .i64, some .i64] cs) : ∃ x, cs = encC x ∧ okCl x := by
  obtain ⟨a, u, rfl, _, h⟩ := h.int
  obtain ⟨b, u, rfl, _, h⟩ := h.int
  obtain ⟨c, u, rfl, _, h⟩ := h.int
  obtain ⟨d, u', rfl, h4⟩ := h.bool
  obtain ⟨e, u, rfl, _, h⟩ := h4.int
  obtain ⟨f, u, rfl, _, h⟩ := h.int
  obtain rfl := h.nil
  exact ⟨⟨a, b, c, d, e, f⟩, rfl, rfl⟩
end Go.Proofs.Ytkhanjhjcfhhiaa

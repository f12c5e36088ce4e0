/- The cells of a loop, a split, a delivery, opened. No condition. -/
import Derived.Test.YtckkjiaoaeaaoaaLopRow
import Derived.Test.YtckkjiaoaeaaoaaOpenRow
namespace Go.Proofs.Ytckkjiaoaeaaoaa
open Go.RowKit

def okLo (x : Lo) : Prop := x = x
theorem openL (cs : List Value) (h : Leaf.All [some .i64, some .i64, some .i64, some .i64, some .i64, some .i64, some .i64] cs) : ∃ x, cs = encL x ∧ okLo x := by
  obtain ⟨a, u, rfl, _, h⟩ := h.int
  obtain ⟨b, u, rfl, _, h⟩ := h.int
  obtain ⟨c, u, rfl, _, h⟩ := h.int
  obtain ⟨d, u, rfl, _, h⟩ := h.int
  obtain ⟨e, u, rfl, _, h⟩ := h.int
  obtain ⟨f, u, rfl, _, h⟩ := h.int
  obtain ⟨g, u, rfl, _, h⟩ := h.int
  obtain rfl := h.nil
  exact ⟨⟨a, b, c, d, e, f, g⟩, rfl, rfl⟩
def okDv (x : Dv) : Prop := x = x
theorem openD (cs : List Value) (h : Leaf.All [some .i64, some .i64, some .i64] cs) : ∃ x, cs = encD x ∧ okDv x := by
  obtain ⟨a, u, rfl, _, h⟩ := h.int
  obtain ⟨b, u, rfl, _, h⟩ := h.int
  obtain ⟨c, u, rfl, _, h⟩ := h.int
  obtain rfl := h.nil
  exact ⟨⟨a, b, c⟩, rfl, rfl⟩
end Go.Proofs.Ytckkjiaoaeaaoaa

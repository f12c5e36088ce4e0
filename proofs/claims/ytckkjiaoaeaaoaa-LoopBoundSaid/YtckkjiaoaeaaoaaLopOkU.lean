/- A byte's cell, opened. No condition. -/
import Derived.Test.YtckkjiaoaeaaoaaLopDel
import Derived.Test.YtckkjiaoaeaaoaaOpenRow
namespace Go.Proofs.Ytckkjiaoaeaaoaa
open Go.RowKit

theorem openU (cs : List Value) (h : Leaf.All [some .u8] cs) : ∃ x, cs = encU x ∧ okU x := by
  obtain ⟨a, u, rfl, wa, h⟩ := h.int
  obtain rfl := h.nil
  exact ⟨a, rfl, bounds_u8 wa⟩
end Go.Proofs.Ytckkjiaoaeaaoaa

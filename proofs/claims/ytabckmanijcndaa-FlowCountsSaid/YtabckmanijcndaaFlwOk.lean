/- A flow's cells, opened. No condition. -/
import Derived.Test.YtabckmanijcndaaFlwN
import Derived.Test.YtabckmanijcndaaOpenRow
namespace Go.Proofs.Ytabckmanijcndaa
open Go.RowKit

/-- the fields are int64s -/
def okF (f : Fl) : Prop := (-9223372036854775808 ≤ f.ph ∧ f.ph ≤ 9223372036854775807) ∧ (f.pe ≤ 9223372036854775807 ∧ -9223372036854775808 ≤ f.pe)
theorem openF (cs : List Value) (h : Leaf.All [some .i64, some .i64, some .i64, some .i64, some .i64, some .i64] cs) : ∃ x, cs = encF x ∧ okF x := by
  obtain ⟨a, u, rfl, _, h⟩ := h.int
  obtain ⟨b, u, rfl, _, h⟩ := h.int
  obtain ⟨c, u, rfl, _, h⟩ := h.int
  obtain ⟨d, u, rfl, wd, h⟩ := h.int
  obtain ⟨e, u, rfl, we, h⟩ := h.int
  obtain ⟨f, u, rfl, _, h⟩ := h.int
  obtain rfl := h.nil
  have b1 := bounds_i64 wd
  have b2 := bounds_i64 we
  exact ⟨⟨a, b, c, d, e, f⟩, rfl, b2, b1.2, b1.1⟩
end Go.Proofs.Ytabckmanijcndaa

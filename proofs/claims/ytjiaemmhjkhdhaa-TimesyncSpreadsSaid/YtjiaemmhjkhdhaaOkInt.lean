/- An int's cell, opened. No condition. -/
import Derived.Test.YtjiaemmhjkhdhaaOpenRow
namespace Go.Proofs.Ytjiaemmhjkhdhaa
open Go.RowKit

def okI (n : Int) : Prop := -9223372036854775808 ≤ n ∧ n ≤ 9223372036854775807
theorem openI (cs : List Value) (h : Leaf.All [some .i64] cs) : ∃ x, cs = encI x ∧ okI x := by
  obtain ⟨a, u, rfl, wa, h⟩ := h.int
  obtain rfl := h.nil
  exact ⟨a, rfl, bounds_i64 wa⟩
end Go.Proofs.Ytjiaemmhjkhdhaa

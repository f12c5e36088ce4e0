/- The cells of a Synced and of a Sync, opened. No condition. -/
import Derived.Test.YtjiaemmhjkhdhaaRunRow
import Derived.Test.YtjiaemmhjkhdhaaOkInt
namespace Go.Proofs.Ytjiaemmhjkhdhaa
open Go.RowKit

def I64 (n : Int) : Prop := -9223372036854775808 ≤ n ∧ n ≤ 9223372036854775807
def okSy (x : Sy) : Prop := I64 x.o ∧ I64 x.d ∧ I64 x.s ∧ I64 x.c
def okYn (x : Yn) : Prop := I64 x.n ∧ I64 x.t
theorem openSy (cs : List Value) (h : Leaf.All [some .i64, some .i64, some .i64, some .i64] cs) : ∃ x, cs = encS x ∧ okSy x := by
  obtain ⟨a, u, rfl, wa, h⟩ := h.int
  obtain ⟨b, u, rfl, wb, h⟩ := h.int
  obtain ⟨c, u, rfl, wc, h⟩ := h.int
  obtain ⟨d, u, rfl, wd, h⟩ := h.int
  obtain rfl := h.nil
  exact ⟨⟨a, b, c, d⟩, rfl, bounds_i64 wa, bounds_i64 wb, bounds_i64 wc, bounds_i64 wd⟩
theorem openYn (cs : List Value) (h : Leaf.All [some .i64, some .i64, none] cs) : ∃ x, cs = encY x ∧ okYn x := by
  obtain ⟨a, u0, rfl, wa, h0⟩ := h.int
  obtain ⟨b, u1, rfl, wb, h1⟩ := h0.int
  obtain ⟨c, u2, rfl, h2⟩ := h1.bool
  obtain rfl := h2.nil
  exact ⟨⟨a, b, c⟩, rfl, bounds_i64 wa, bounds_i64 wb⟩
end Go.Proofs.Ytjiaemmhjkhdhaa

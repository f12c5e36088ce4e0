/- A row of flows in memory. -/
import Derived.Test.YtabckmanijcndaaFlwA
import Derived.Shelf.SlicesQ.Load
namespace Go.Proofs.Ytabckmanijcndaa
open Go.RowKit Go.Sort
set_option linter.unusedVariables false

/-- n flows lie one behind the other -/
def RowFl (w : World) (b off n : Nat) (zs : Nat → Fl) : Prop :=
  ∀ j, j < n → w.cell? ⟨b, off + j * 6, none⟩ = some (.int .i64 (zs j).id) ∧ w.cell? ⟨b, off + j * 6 + 1, none⟩ = some (.int .i64 (zs j).fr) ∧ w.cell? ⟨b, off + j * 6 + 2, none⟩ = some (.int .i64 (zs j).to) ∧ w.cell? ⟨b, off + j * 6 + 3, none⟩ = some (.int .i64 (zs j).pe) ∧ w.cell? ⟨b, off + j * 6 + 4, none⟩ = some (.int .i64 (zs j).ph) ∧ w.cell? ⟨b, off + j * 6 + 5, none⟩ = some (.int .i64 (zs j).de)

theorem RowFl.gr {a w : World} {b off n : Nat} {zs : Nat → Fl} (h : RowFl a b off n zs) (hb : b < a.heap.size) (g : Gr a w) : RowFl w b off n zs := by
  intro j hj
  obtain ⟨h0, h1, h2, h3, h4, h5⟩ := h j hj
  exact ⟨(g.cell hb).trans h0, (g.cell hb).trans h1, (g.cell hb).trans h2, (g.cell hb).trans h3, (g.cell hb).trans h4, (g.cell hb).trans h5⟩

theorem RowFl.load {w : World} {b off n : Nat} {zs : Nat → Fl} (h : RowFl w b off n zs) (P : Program) (j : Nat) (hj : j < n) :
    Sem.run P (loadCellsFrom ⟨b, off + j * 6, none⟩ 0 6 #[]) w = .ok #[.int .i64 (zs j).id, .int .i64 (zs j).fr, .int .i64 (zs j).to, .int .i64 (zs j).pe, .int .i64 (zs j).ph, .int .i64 (zs j).de] w := by
  obtain ⟨h0, h1, h2, h3, h4, h5⟩ := h j hj
  refine run_loadCellsFrom_list P _ _ [.int .i64 (zs j).id, .int .i64 (zs j).fr, .int .i64 (zs j).to, .int .i64 (zs j).pe, .int .i64 (zs j).ph, .int .i64 (zs j).de] 6 rfl (fun i v hi => ?_)
  rw [Addr.add_lit]
  match i with
  | 0 => simp at hi; subst hi; exact h0
  | 1 => simp at hi; subst hi; exact h1
  | 2 => simp at hi; subst hi; exact h2
  | 3 => simp at hi; subst hi; exact h3
  | 4 => simp at hi; subst hi; exact h4
  | 5 => simp at hi; subst hi; exact h5
  | i + 6 => simp at hi

end Go.Proofs.Ytabckmanijcndaa

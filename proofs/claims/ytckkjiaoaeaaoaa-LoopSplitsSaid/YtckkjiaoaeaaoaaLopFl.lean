/- Flows can be told apart. No condition. -/
import Derived.Test.YtckkjiaoaeaaoaaLopRow
namespace Go.Proofs.Ytckkjiaoaeaaoaa
open Go.RowKit Go.Sort
instance : DecidableEq Fl := fun a b =>
  if h : a.id = b.id ∧ a.fr = b.fr ∧ a.to = b.to ∧ a.pe = b.pe ∧ a.ph = b.ph ∧ a.de = b.de then isTrue (by obtain ⟨h1, h2, h3, h4, h5, h6⟩ := h; cases a; cases b; simp only at h1 h2 h3 h4 h5 h6; subst h1 h2 h3 h4 h5 h6; rfl)
  else isFalse (fun e => h (by subst e; exact ⟨rfl, rfl, rfl, rfl, rfl, rfl⟩))
end Go.Proofs.Ytckkjiaoaeaaoaa

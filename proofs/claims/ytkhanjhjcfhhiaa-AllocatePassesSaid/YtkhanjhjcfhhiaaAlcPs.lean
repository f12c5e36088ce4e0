/- A list behind a pass is a good list; the bits of a byte. No condition. -/
import Derived.Test.YtkhanjhjcfhhiaaAlcLst
namespace Go.Proofs.Ytkhanjhjcfhhiaa
set_option linter.unusedVariables false
namespace Al
theorem bump_ok {x : Us} {u w : Bool} (h : okN x) (hw : (w && !u) = false) : okN (bump x u w) := by
  unfold okN at h ⊢
  unfold bump
  cases u <;> cases w <;> first | (exact absurd hw (by decide)) | (split <;> dsimp only <;> simp only [if_true, Bool.false_eq_true, if_false] <;> omega)
theorem bump_c (x : Us) (u w : Bool) : (bump x u w).c = x.c := by unfold bump; split <;> rfl
theorem at_set {l : List Us} {k j : Nat} {x : Us} (hk : k < l.length) : at_ (l.set k x) j = if j = k then x else at_ l j := by
  unfold at_
  rw [List.getD_eq_getElem?_getD, List.getD_eq_getElem?_getD, List.getElem?_set]
  by_cases e : k = j
  · subst e; rw [if_pos rfl, if_pos hk, if_pos rfl]; rfl
  · rw [if_neg e, if_neg (fun q => e q.symm)]
theorem chk_set {l : List Us} {k : Nat} {x y : Us} (h : chk l = 0) (hx : l[k]? = some x) (hc : y.c = x.c) (hn : okN y) : chk (l.set k y) = 0 := by
  have hk := (List.getElem?_eq_some_iff.1 hx).1
  have hxa := at_eq hx
  have ca : ∀ j, (at_ (l.set k y) j).c = (at_ l j).c := fun j => by
    rw [at_set hk]
    by_cases e : j = k
    · subst e; rw [if_pos rfl, hc, hxa]
    · rw [if_neg e]
  refine chk_of (by rw [List.length_set]; exact (chk_inv h).1) (fun j hj => ?_) (fun j h0 hj => ?_)
  · rw [List.length_set] at hj
    obtain ⟨h1, h2, _⟩ := bad_inv ((chk_inv h).2 j hj)
    refine ⟨by rw [ca, ca]; exact h1, ?_⟩
    rw [at_set hk]
    by_cases e : j = k
    · rw [if_pos e]; exact hn
    · rw [if_neg e]; exact h2
  · rw [List.length_set] at hj
    rw [ca, ca]
    exact chk_lt h (by omega) hj
end Al
end Go.Proofs.Ytkhanjhjcfhhiaa

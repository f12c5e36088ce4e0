/- Plain laws of reaching: the least times are in the order of what is reached, and near what is shown. No condition. -/
import Derived.Test.YtjiaemmhjkhdhaaClkPlain
namespace Go.Proofs.Ytjiaemmhjkhdhaa.Ck

theorem rc_mono {o d x y : Int} (d1 : -100000 ≤ d) (d2 : d ≤ 100000) (h : x ≤ y) (hy : y ≤ sh o d 1099511627776) : rc o d x ≤ rc o d y := by
  have a := rc_least o d x d1 d2 (by omega)
  have b := rc_least o d y d1 d2 hy
  exact (a.iff d1 d2 _ b.r0).2 (by have := b.hit; omega)

/-- what is shown when something is reached behind the start -/
theorem rc_near {o d x : Int} (d1 : -100000 ≤ d) (d2 : d ≤ 100000) (h : x ≤ sh o d 1099511627776) (hr : 0 < rc o d x) : x ≤ sh o d (rc o d x) ∧ sh o d (rc o d x) ≤ x + 1 ∧ sh o d (rc o d x - 1) < x := by
  have a := rc_least o d x d1 d2 h
  have h1 := a.hit
  have h2 := a.before (rc o d x - 1) (by omega) (by omega)
  have h3 := sh_succ o d (rc o d x - 1) d1 d2
  rw [Int.sub_add_cancel] at h3
  omega

/-- what is reached ten thousand later is reached later, but for clocks that are far ahead -/
theorem rc_apart {o d x y : Int} (d1 : -100000 ≤ d) (d2 : d ≤ 100000) (h : x + 2 ≤ y) (hy : y ≤ sh o d 1099511627776) (hr : 0 < rc o d y) : rc o d x < rc o d y := by
  have a := rc_least o d x d1 d2 (by omega)
  have b := rc_least o d y d1 d2 hy
  have h2 := sh_succ o d (rc o d y - 1) d1 d2
  rw [Int.sub_add_cancel] at h2
  have h4 := b.hit
  have := (a.iff d1 d2 (rc o d y - 1) (by omega)).2 (by omega)
  omega

/-- the window's end, or a clock that is far ahead -/
theorem rc_late {o d x y : Int} (d1 : -100000 ≤ d) (d2 : d ≤ 100000) (h : x + 2 ≤ y) (hy : y ≤ sh o d 1099511627776) : rc o d x ≤ rc o d y - 1 ∨ y ≤ sh o d 0 := by
  by_cases hr : 0 < rc o d y
  · exact .inl (by have := rc_apart d1 d2 h hy hr; omega)
  · have b := rc_least o d y d1 d2 hy
    have := b.r0
    have e : rc o d y = 0 := by omega
    have h4 := b.hit
    rw [e] at h4
    exact .inr h4

/-- the four facts of a slot's times -/
theorem in_ok {o d s x : Int} (h : inE o d s x = 0) : slotE o d s = 0 ∧ s * 10000 + x ≤ sh o d 1099511627776 ∧ inN o d s x = rc o d (s * 10000 + x) := by
  have hs : slotE o d s = 0 := by
    unfold inE at h
    split at h
    · assumption
    · exact h
  have hx : s * 10000 + x ≤ sh o d 1099511627776 := by
    unfold inE reachE at h
    rw [if_pos hs] at h
    split at h
    · assumption
    · exact absurd h (by decide)
  refine ⟨hs, hx, ?_⟩
  unfold inN reachN
  rw [if_pos hs, if_pos hx]

theorem in_of {o d s x : Int} (hs : slotE o d s = 0) (hx : s * 10000 + x ≤ sh o d 1099511627776) : inN o d s x = rc o d (s * 10000 + x) ∧ inE o d s x = 0 := by
  unfold inN reachN inE reachE
  rw [if_pos hs, if_pos hx, if_pos hs, if_pos hx]
  exact ⟨rfl, rfl⟩
theorem in_no {o d s x : Int} (h : inE o d s x ≠ 0) : inN o d s x = 0 := by
  unfold inN
  split
  · rename_i hs
    unfold inE at h
    rw [if_pos hs] at h
    unfold reachN
    split
    · rename_i hx
      exact absurd (by unfold reachE; rw [if_pos hx]) h
    · rfl
  · rfl
end Go.Proofs.Ytjiaemmhjkhdhaa.Ck

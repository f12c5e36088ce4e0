/- Plain definitions of what package flow computes on one flow. No condition. -/
namespace Go.Proofs.Ytckkjiaoaeaaoaa

/-- a flow -/
structure Fl where
  id : Int
  fr : Int
  to : Int
  pe : Int
  ph : Int
  de : Int
namespace Fw

def okR (n : Int) (f : Fl) : Prop := (0 ≤ f.id ∧ f.id ≤ 255 ∧ (0 ≤ f.fr ∧ f.fr < n) ∧ (0 ≤ f.to ∧ f.to < n)) ∧ 1 ≤ f.pe ∧ f.pe ≤ 512 ∧ 0 ≤ f.ph ∧ f.ph < f.pe ∧ 1 ≤ f.de ∧ f.de ≤ f.pe
instance (n : Int) (f : Fl) : Decidable (okR n f) := by unfold okR; infer_instance
/-- the fault of a flow -/
def chk (n : Int) (f : Fl) : Int := if okR n f then (if f.fr = f.to then 1 else 0) else 2
theorem chk_ok {n : Int} {f : Fl} (h : okR n f) (h' : ¬ f.fr = f.to) : chk n f = 0 := by unfold chk; rw [if_pos h, if_neg h']
theorem chk_same {n : Int} {f : Fl} (h : okR n f) (h' : f.fr = f.to) : chk n f = 1 := by unfold chk; rw [if_pos h, if_pos h']
theorem chk_no {n : Int} {f : Fl} (h : ¬ okR n f) : chk n f = 2 := if_neg h
theorem chk_inv {n : Int} {f : Fl} (h : chk n f = 0) : okR n f ∧ ¬ f.fr = f.to := by
  unfold chk at h
  split at h
  · split at h
    · exact absurd h (by decide)
    · exact ⟨by assumption, by assumption⟩
  · exact absurd h (by decide)

def relOk (f : Fl) (k : Int) : Prop := chk 32 f = 0 ∧ 0 ≤ k ∧ k ≤ 1099511627776 ∧ f.ph + k * f.pe ≤ 1099511627776
instance (f : Fl) (k : Int) : Decidable (relOk f k) := by unfold relOk; infer_instance
def relE (f : Fl) (k : Int) : Int := if chk 32 f = 0 then (if relOk f k then 0 else 2) else 1
def relN (f : Fl) (k : Int) : Int := if relOk f k then f.ph + k * f.pe else 0
def winT (f : Fl) (k : Int) : Int := if relOk f k then f.ph + k * f.pe + f.pe - 1 else 0
def dueN (f : Fl) (k : Int) : Int := if relOk f k then f.ph + k * f.pe + f.de - 1 else 0
def curOk (f : Fl) (s : Int) : Prop := chk 32 f = 0 ∧ f.ph ≤ s ∧ s ≤ 1099511627776
instance (f : Fl) (s : Int) : Decidable (curOk f s) := by unfold curOk; infer_instance
def curN (f : Fl) (s : Int) : Int := if curOk f s then (s - f.ph) / f.pe else 0
def curB (f : Fl) (s : Int) : Bool := decide (curOk f s)

theorem pr_bd {f : Fl} {k : Int} (h : okR 32 f) (k0 : 0 ≤ k) (k1 : k ≤ 1099511627776) : 0 ≤ k * f.pe ∧ k * f.pe ≤ 562949953421312 := by
  obtain ⟨_, p1, p2, _⟩ := h
  refine ⟨Int.mul_nonneg k0 (by omega), ?_⟩
  have := Int.mul_le_mul k1 p2 (by omega) (by decide)
  omega
end Fw
end Go.Proofs.Ytckkjiaoaeaaoaa

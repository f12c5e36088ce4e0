/- Plain definitions of what package timesync computes: checks, measures, corrections. No condition. -/
import Derived.Test.YtjiaemmhjkhdhaaClkPlain
namespace Go.Proofs.Ytjiaemmhjkhdhaa.Ts
open Ck

def okS (o d s c : Int) : Prop := chk o d = 0 ∧ (s = -1 ∨ (0 ≤ s ∧ s ≤ 109951162)) ∧ 0 ≤ c ∧ c ≤ 4096 ∧ (c = 0 ↔ s = -1)
instance (o d s c : Int) : Decidable (okS o d s c) := by unfold okS; infer_instance
/-- the error of a state -/
def chkS (o d s c : Int) : Int := if okS o d s c then 0 else 1
theorem chkS_ok {o d s c : Int} (h : okS o d s c) : chkS o d s c = 0 := if_pos h
theorem chkS_no {o d s c : Int} (h : ¬ okS o d s c) : chkS o d s c = 1 := if_neg h

def meaOk (o d slot t : Int) : Prop := chk o d = 0 ∧ 0 ≤ slot ∧ slot ≤ 109951162 ∧ 0 ≤ t ∧ t ≤ 1099511627776
instance (o d slot t : Int) : Decidable (meaOk o d slot t) := by unfold meaOk; infer_instance
def meaN (o d slot t : Int) : Int := if meaOk o d slot t then sh o d t - (slot * 10000 + 2120) else 0
def meaE (o d slot t : Int) : Int := if chk o d = 0 then (if meaOk o d slot t then 0 else 2) else 1
theorem mea_ok {o d slot t : Int} (h : meaOk o d slot t) : meaN o d slot t = sh o d t - (slot * 10000 + 2120) ∧ meaE o d slot t = 0 := by
  unfold meaN meaE
  rw [if_pos h, if_pos h.1, if_pos h]
  exact ⟨rfl, rfl⟩
theorem mea_out {o d slot t : Int} (hc : chk o d = 0) (h : ¬ meaOk o d slot t) : meaN o d slot t = 0 ∧ meaE o d slot t = 2 := by
  unfold meaN meaE
  rw [if_neg h, if_pos hc, if_neg h]
  exact ⟨rfl, rfl⟩
theorem mea_bad {o d slot t : Int} (hc : chk o d = 1) : meaN o d slot t = 0 ∧ meaE o d slot t = 1 := by
  unfold meaN meaE
  rw [if_neg (fun h => by have := h.1; omega), if_neg (by omega)]
  exact ⟨rfl, rfl⟩
theorem mea_bd {o d slot t : Int} : -1200000000000 ≤ meaN o d slot t + 1099511630000 ∧ -2300000000000 ≤ meaN o d slot t ∧ meaN o d slot t ≤ 2300000000000 := by
  by_cases h : meaOk o d slot t
  · rw [(mea_ok h).1]
    obtain ⟨h1, h2, h3, h4, h5⟩ := h
    rcases chk_01 o d with ⟨_, v⟩ | ⟨hc, _⟩
    · have := sh_bd o d t v h4 h5
      omega
    · omega
  · unfold meaN
    rw [if_neg h]
    omega

/-- a corrected state and the error -/
structure St where
  o : Int
  d : Int
  s : Int
  c : Int
  e : Int
  deriving DecidableEq, Inhabited
def no (e : Int) : St := ⟨0, 0, 0, 0, e⟩
def cor (o d s c slot n : Int) : St :=
  if slot ≤ s then no 5 else if n < -4999 ∨ 4999 < n then no 15 else if c = 4096 then no 13 else if adjOk o d n then ⟨o + n, d, slot, c + 1, 0⟩ else no 1
theorem cor_order {o d s c slot n : Int} (h : slot ≤ s) : cor o d s c slot n = no 5 := if_pos h
theorem cor_late {o d s c slot n : Int} (h : ¬ slot ≤ s) (h1 : n < -4999 ∨ 4999 < n) : cor o d s c slot n = no 15 := by unfold cor; rw [if_neg h, if_pos h1]
theorem cor_full {o d s c slot n : Int} (h : ¬ slot ≤ s) (h1 : ¬ (n < -4999 ∨ 4999 < n)) (h2 : c = 4096) : cor o d s c slot n = no 13 := by unfold cor; rw [if_neg h, if_neg h1, if_pos h2]
theorem cor_ok {o d s c slot n : Int} (h : ¬ slot ≤ s) (h1 : ¬ (n < -4999 ∨ 4999 < n)) (h2 : ¬ c = 4096) (h3 : adjOk o d n) : cor o d s c slot n = ⟨o + n, d, slot, c + 1, 0⟩ := by unfold cor; rw [if_neg h, if_neg h1, if_neg h2, if_pos h3]
theorem cor_arg {o d s c slot n : Int} (h : ¬ slot ≤ s) (h1 : ¬ (n < -4999 ∨ 4999 < n)) (h2 : ¬ c = 4096) (h3 : ¬ adjOk o d n) : cor o d s c slot n = no 1 := by unfold cor; rw [if_neg h, if_neg h1, if_neg h2, if_neg h3]

def hear (o d s c slot t : Int) : St :=
  if okS o d s c then (if meaE o d slot t = 0 then cor o d s c slot (-(meaN o d slot t)) else no (meaE o d slot t)) else no 1
def ack (o d s c slot n : Int) : St :=
  if okS o d s c then (if 0 ≤ slot ∧ slot ≤ 109951162 then cor o d s c slot n else no 2) else no 1
/-- is a state synchronized -/
def syn (o d s c slot keep : Int) : Bool := decide (okS o d s c ∧ 0 ≤ s ∧ s ≤ slot ∧ slot - s ≤ keep)
end Go.Proofs.Ytjiaemmhjkhdhaa.Ts

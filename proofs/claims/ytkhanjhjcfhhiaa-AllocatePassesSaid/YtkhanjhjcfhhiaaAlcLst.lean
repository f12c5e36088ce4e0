/- Plain definitions of allocate's Pass and Join. No condition. -/
import Derived.Test.YtkhanjhjcfhhiaaAlcPlain
import Derived.Test.YtkhanjhjcfhhiaaFind
namespace Go.Proofs.Ytkhanjhjcfhhiaa
namespace Al
/-- a usage behind a pass -/
def bump (x : Us) (u w : Bool) : Us :=
  if x.pa = 64 then ⟨x.c, 32 + 1, x.us / 2 + (if u then 1 else 0), x.wo / 2 + (if w then 1 else 0)⟩ else ⟨x.c, x.pa + 1, x.us + (if u then 1 else 0), x.wo + (if w then 1 else 0)⟩
/-- is it the cell of a slot -/
def atSlot (s : Int) (x : Us) : Bool := x.c.s == s
def pasE (l : List Us) (s : Int) (u w : Bool) : Int := if chk l = 0 then (if l.any (atSlot s) then (if w && !u then 12 else 0) else 7) else 1
def pasL (l : List Us) (s : Int) (u w : Bool) : List Us := if pasE l s u w = 0 then l.set (l.findIdx (atSlot s)) (bump (at_ l (l.findIdx (atSlot s))) u w) else []
theorem pas_chk {l : List Us} {s : Int} {u w : Bool} (h : ¬ chk l = 0) : pasE l s u w = 1 ∧ pasL l s u w = [] := by
  have e : pasE l s u w = 1 := if_neg h
  exact ⟨e, by unfold pasL; rw [e]; rfl⟩
theorem pas_not {l : List Us} {s : Int} {u w : Bool} (h : chk l = 0) (h2 : l.any (atSlot s) = false) : pasE l s u w = 7 ∧ pasL l s u w = [] := by
  have e : pasE l s u w = 7 := by unfold pasE; rw [if_pos h, h2]; rfl
  exact ⟨e, by unfold pasL; rw [e]; rfl⟩
theorem pas_state {l : List Us} {s : Int} {u w : Bool} (h : chk l = 0) (h2 : l.any (atSlot s) = true) (h3 : (w && !u) = true) : pasE l s u w = 12 ∧ pasL l s u w = [] := by
  have e : pasE l s u w = 12 := by unfold pasE; rw [if_pos h, h2, h3]; rfl
  exact ⟨e, by unfold pasL; rw [e]; rfl⟩
theorem pas_ok {l : List Us} {s : Int} {u w : Bool} {k : Nat} {x : Us} (h : chk l = 0) (hx : l[k]? = some x) (hs : x.c.s = s) (h3 : (w && !u) = false) : pasE l s u w = 0 ∧ pasL l s u w = l.set k (bump x u w) := by
  have ha : l.any (atSlot s) = true := List.any_eq_true.2 ⟨x, List.mem_of_getElem? hx, by unfold atSlot; simpa using hs⟩
  have hl := (List.getElem?_eq_some_iff.1 hx).1
  have hf : l.findIdx (atSlot s) = k := (List.findIdx_eq hl).2 ⟨by rw [(List.getElem?_eq_some_iff.1 hx).2]; unfold atSlot; simpa using hs, fun j hj => by
    have hj2 : j < l.length := by omega
    unfold atSlot
    simp only [beq_eq_false_iff_ne, ne_eq]
    intro e
    have := chk_inj h (List.getElem?_eq_getElem hj2) hx (by omega)
    omega⟩
  have e : pasE l s u w = 0 := by unfold pasE; rw [if_pos h, ha, h3]; rfl
  refine ⟨e, ?_⟩
  unfold pasL
  rw [if_pos e, hf, at_eq hx]
theorem pas_inv {l : List Us} {s : Int} {u w : Bool} (h : pasE l s u w = 0) : chk l = 0 ∧ (∃ (k : Nat) (x : Us), l[k]? = some x ∧ x.c.s = s) ∧ (w && !u) = false := by
  unfold pasE at h
  split at h
  · rename_i h1
    split at h
    · rename_i h2
      split at h
      · exact absurd h (by decide)
      · rename_i h3
        obtain ⟨x, hx, hs⟩ := List.any_eq_true.1 h2
        obtain ⟨k, hk, rfl⟩ := List.getElem_of_mem hx
        refine ⟨h1, ⟨k, l[k], List.getElem?_eq_getElem hk, by unfold atSlot at hs; simpa using hs⟩, by simpa using h3⟩
    · exact absurd h (by decide)
  · exact absurd h (by decide)

/-- a fresh usage of a cell -/
def new (c : Cl) : Us := ⟨c, 0, 0, 0⟩
/-- is it the usage of a cell -/
def atCell (c : Cl) (x : Us) : Bool := decide (x.c = c)
/-- the usage of a cell in a list, or a fresh one -/
def pick (l : List Us) (c : Cl) : Us := if l.any (atCell c) then at_ l (l.findIdx (atCell c)) else new c
def joiE (l : List Us) (cs : List Cl) : Int := if chk l = 0 then chk (cs.map new) else 1
def joiL (l : List Us) (cs : List Cl) : List Us := if joiE l cs = 0 then cs.map (pick l) else []
theorem pick_hit {l : List Us} {c : Cl} {k : Nat} {x : Us} (h : chk l = 0) (hx : l[k]? = some x) (hs : x.c = c) : pick l c = x := by
  have ha : l.any (atCell c) = true := List.any_eq_true.2 ⟨x, List.mem_of_getElem? hx, by unfold atCell; simpa using hs⟩
  have hl := (List.getElem?_eq_some_iff.1 hx).1
  have hf : l.findIdx (atCell c) = k := (List.findIdx_eq hl).2 ⟨by rw [(List.getElem?_eq_some_iff.1 hx).2]; unfold atCell; simpa using hs, fun j hj => by
    have hj2 : j < l.length := by omega
    unfold atCell
    simp only [decide_eq_false_iff_not]
    intro e
    have := chk_inj h (List.getElem?_eq_getElem hj2) hx (by rw [e, hs])
    omega⟩
  unfold pick
  rw [if_pos ha, hf, at_eq hx]
theorem pick_miss {l : List Us} {c : Cl} (h : l.any (atCell c) = false) : pick l c = new c := by
  unfold pick; rw [h]; rfl
theorem joi_chk {l : List Us} {cs : List Cl} (h : ¬ chk l = 0) : joiE l cs = 1 ∧ joiL l cs = [] := by
  have e : joiE l cs = 1 := if_neg h
  exact ⟨e, by unfold joiL; rw [e]; rfl⟩
theorem joi_bad {l : List Us} {cs : List Cl} (h : chk l = 0) (h2 : ¬ chk (cs.map new) = 0) : joiE l cs = chk (cs.map new) ∧ joiL l cs = [] := by
  have e : joiE l cs = chk (cs.map new) := if_pos h
  exact ⟨e, by unfold joiL; rw [e, if_neg h2]⟩
theorem joi_ok {l : List Us} {cs : List Cl} (h : chk l = 0) (h2 : chk (cs.map new) = 0) : joiE l cs = 0 ∧ joiL l cs = cs.map (pick l) := by
  have e : joiE l cs = 0 := by unfold joiE; rw [if_pos h, h2]
  exact ⟨e, by unfold joiL; rw [if_pos e]⟩
end Al
end Go.Proofs.Ytkhanjhjcfhhiaa

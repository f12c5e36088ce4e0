/- A whole usage is stored into a row of the call's own; lists that Join walks through. No condition. -/
import Derived.Test.YtkhanjhjcfhhiaaAlcRow
import Derived.Test.YtkhanjhjcfhhiaaAlcLst
import Derived.Test.YtkhanjhjcfhhiaaPut
namespace Go.Proofs.Ytkhanjhjcfhhiaa
open Go.RowKit Go.Sort

theorem owns_put9 {w : World} {base e g n cap i : Nat} {l : List Us} {y : Us} (h : w.ownsRow base e 9 (.slice (some ⟨g, 0, none⟩) n cap) n ((l.map encU).flatten)) (hx : l[i]? = some y) (x : Us) :
    (((((((((w.setCell ⟨g, i * 9, none⟩ (.int .i64 x.c.s)).setCell ⟨g, i * 9 + 1, none⟩ (.int .i64 x.c.o)).setCell ⟨g, i * 9 + 2, none⟩ (.int .i64 x.c.k)).setCell ⟨g, i * 9 + 3, none⟩ (.bool x.c.b)).setCell ⟨g, i * 9 + 4, none⟩ (.int .i64 x.c.p)).setCell ⟨g, i * 9 + 5, none⟩ (.int .i64 x.c.f)).setCell ⟨g, i * 9 + 6, none⟩ (.int .i64 x.pa)).setCell ⟨g, i * 9 + 7, none⟩ (.int .i64 x.us)).setCell ⟨g, i * 9 + 8, none⟩ (.int .i64 x.wo)).ownsRow base e 9 (.slice (some ⟨g, 0, none⟩) n cap) n (((l.set i x).map encU).flatten) := by
  have hi := (List.getElem?_eq_some_iff.1 hx).1
  have P0 := owns_set0 h hx
  have P1 := owns_put2 encU_len P0 hi 0 (.int .i64 x.c.s) ⟨⟨x.c.s, y.c.o, y.c.k, y.c.b, y.c.p, y.c.f⟩, y.pa, y.us, y.wo⟩ (by decide) rfl
  have P2 := owns_put2 encU_len P1 hi 1 (.int .i64 x.c.o) ⟨⟨x.c.s, x.c.o, y.c.k, y.c.b, y.c.p, y.c.f⟩, y.pa, y.us, y.wo⟩ (by decide) rfl
  have P3 := owns_put2 encU_len P2 hi 2 (.int .i64 x.c.k) ⟨⟨x.c.s, x.c.o, x.c.k, y.c.b, y.c.p, y.c.f⟩, y.pa, y.us, y.wo⟩ (by decide) rfl
  have P4 := owns_put2 encU_len P3 hi 3 (.bool x.c.b) ⟨⟨x.c.s, x.c.o, x.c.k, x.c.b, y.c.p, y.c.f⟩, y.pa, y.us, y.wo⟩ (by decide) rfl
  have P5 := owns_put2 encU_len P4 hi 4 (.int .i64 x.c.p) ⟨⟨x.c.s, x.c.o, x.c.k, x.c.b, x.c.p, y.c.f⟩, y.pa, y.us, y.wo⟩ (by decide) rfl
  have P6 := owns_put2 encU_len P5 hi 5 (.int .i64 x.c.f) ⟨⟨x.c.s, x.c.o, x.c.k, x.c.b, x.c.p, x.c.f⟩, y.pa, y.us, y.wo⟩ (by decide) rfl
  have P7 := owns_put2 encU_len P6 hi 6 (.int .i64 x.pa) ⟨x.c, x.pa, y.us, y.wo⟩ (by decide) rfl
  have P8 := owns_put2 encU_len P7 hi 7 (.int .i64 x.us) ⟨x.c, x.pa, x.us, y.wo⟩ (by decide) rfl
  have P9 := owns_put2 encU_len P8 hi 8 (.int .i64 x.wo) x (by decide) rfl
  exact P9

namespace Al
/-- the first kk cells are looked up, the others are fresh -/
def jl (l : List Us) (cs : List Cl) (kk : Nat) : List Us := (cs.take kk).map (pick l) ++ (cs.drop kk).map new
theorem jl_zero (l : List Us) (cs : List Cl) : jl l cs 0 = cs.map new := by unfold jl; simp
theorem jl_all {l : List Us} {cs : List Cl} {kk : Nat} (h : cs.length ≤ kk) : jl l cs kk = cs.map (pick l) := by
  unfold jl; rw [List.take_of_length_le h, List.drop_of_length_le h]; simp
theorem jl_len (l : List Us) (cs : List Cl) (kk : Nat) : (jl l cs kk).length = cs.length := by
  unfold jl; simp; omega
theorem jl_split {l : List Us} {cs : List Cl} {kk : Nat} {c : Cl} (h : cs[kk]? = some c) : jl l cs kk = (cs.take kk).map (pick l) ++ new c :: (cs.drop (kk + 1)).map new := by
  have hl := (List.getElem?_eq_some_iff.1 h).1
  unfold jl
  rw [List.drop_eq_getElem_cons hl, (List.getElem?_eq_some_iff.1 h).2]
  rfl
theorem jl_at {l : List Us} {cs : List Cl} {kk : Nat} {c : Cl} (h : cs[kk]? = some c) : (jl l cs kk)[kk]? = some (new c) := by
  have hl := (List.getElem?_eq_some_iff.1 h).1
  have e : ((cs.take kk).map (pick l)).length = kk := by simp; omega
  rw [jl_split h, List.getElem?_append_right (by omega), e, Nat.sub_self]
  rfl
theorem jl_set {l : List Us} {cs : List Cl} {kk : Nat} {c : Cl} (h : cs[kk]? = some c) : (jl l cs kk).set kk (pick l c) = jl l cs (kk + 1) := by
  have hl := (List.getElem?_eq_some_iff.1 h).1
  have e : ((cs.take kk).map (pick l)).length = kk := by simp; omega
  rw [jl_split h, List.set_append_right _ _ (by omega), e, Nat.sub_self]
  unfold jl
  rw [List.take_add_one, h, List.map_append, List.append_assoc]
  rfl
theorem jl_same {l : List Us} {cs : List Cl} {kk : Nat} {c : Cl} (h : cs[kk]? = some c) (hp : pick l c = new c) : jl l cs kk = jl l cs (kk + 1) := by
  rw [← jl_set h, hp]
  apply List.ext_getElem?
  intro j
  rw [List.getElem?_set]
  by_cases e : kk = j
  · subst e
    rw [if_pos rfl, jl_at h, if_pos (by rw [jl_len]; exact (List.getElem?_eq_some_iff.1 h).1)]
  · rw [if_neg e]
/-- the usage of a cell, looked up -/
theorem pick_cases {l : List Us} (c : Cl) (h : chk l = 0) : (l.any (atCell c) = false ∧ ixL (atCell c) l = -1 ∧ pick l c = new c) ∨ (∃ (k : Nat) (x : Us), l[k]? = some x ∧ x.c = c ∧ ixL (atCell c) l = k ∧ pick l c = x) := by
  cases ha : l.any (atCell c) with
  | false => exact .inl ⟨rfl, by unfold ixL; rw [ha]; rfl, pick_miss ha⟩
  | true =>
    have hl : l.findIdx (atCell c) < l.length := List.findIdx_lt_length_of_exists (List.any_eq_true.1 ha)
    have hx : (l[l.findIdx (atCell c)]).c = c := by
      have := List.findIdx_getElem (w := hl)
      unfold atCell at this ⊢
      simpa using this
    exact .inr ⟨l.findIdx (atCell c), l[l.findIdx (atCell c)], List.getElem?_eq_getElem hl, hx, by unfold ixL; rw [ha]; rfl, pick_hit h (List.getElem?_eq_getElem hl) hx⟩
end Al
end Go.Proofs.Ytkhanjhjcfhhiaa

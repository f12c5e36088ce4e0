/- Regions that draw their order and hold calls whose values hang on the world: what go_region_held3 leaves, joined again; Gr and rows carried along a region. No condition. -/
import Derived.Test.YtjiaemmhjkhdhaaRow
import Derived.Deep.RegionHeld3
namespace Go.Proofs.Ytjiaemmhjkhdhaa
open Go.RowKit Go.Sort

theorem held_keep {a b : World} {p : Addr} {v : Value} (h : Gr a b) (k : a.cell? p = some v) : b.cell? p = some v := (h.cell (block_lt_of_cell k)).trans k

/-- the ways through a region, joined: A is found at the first of them -/
theorem wp_join3 {c : Code} {P : Program} {Q : Exit → Act → World → Prop} {a : Act} {w : World} (A : Value → Value → Value → Act) (F : World → Value → Value → Value → Prop)
    (h : c.wp P (fun e a' W => e = .normal ∧ ∃ v1 v2 v3, a' = A v1 v2 v3 ∧ F W v1 v2 v3) a w) (k : ∀ v1 v2 v3 W, F W v1 v2 v3 → Q .normal (A v1 v2 v3) W) : c.wp P Q a w :=
  Code.wp_mono (fun e a' W h => by obtain ⟨rfl, v1, v2, v3, rfl, hF⟩ := h; exact k _ _ _ _ hF) h
theorem wp_join4 {c : Code} {P : Program} {Q : Exit → Act → World → Prop} {a : Act} {w : World} (A : Value → Value → Value → Value → Act) (F : World → Value → Value → Value → Value → Prop)
    (h : c.wp P (fun e a' W => e = .normal ∧ ∃ v1 v2 v3 v4, a' = A v1 v2 v3 v4 ∧ F W v1 v2 v3 v4) a w) (k : ∀ v1 v2 v3 v4 W, F W v1 v2 v3 v4 → Q .normal (A v1 v2 v3 v4) W) : c.wp P Q a w :=
  Code.wp_mono (fun e a' W h => by obtain ⟨rfl, v1, v2, v3, v4, rfl, hF⟩ := h; exact k _ _ _ _ _ hF) h
theorem wp_join2 {c : Code} {P : Program} {Q : Exit → Act → World → Prop} {a : Act} {w : World} (A : Value → Value → Act) (F : World → Value → Value → Prop)
    (h : c.wp P (fun e a' W => e = .normal ∧ ∃ v1 v2, a' = A v1 v2 ∧ F W v1 v2) a w) (k : ∀ v1 v2 W, F W v1 v2 → Q .normal (A v1 v2) W) : c.wp P Q a w :=
  Code.wp_mono (fun e a' W h => by obtain ⟨rfl, v1, v2, rfl, hF⟩ := h; exact k _ _ _ hF) h

section
variable {α : Type} {k : Nat} {enc : α → List Value} {w : World} {l : List α}
/-- s[:m] -/
theorem rows_take {A : Option Addr} {n C m : Nat} (h : Rows k enc w (.slice A n C) l) (hm : m ≤ n) : Rows k enc w (.slice A m C) (l.take m) := by
  rcases h with ⟨rfl, A', c, hv, hc⟩ | ⟨b, off, c, hb, hv, hx⟩
  · simp only [Value.slice.injEq] at hv
    obtain ⟨rfl, rfl, rfl⟩ := hv
    obtain rfl : m = 0 := by omega
    exact .inl ⟨rfl, _, _, rfl, hc⟩
  · simp only [Value.slice.injEq] at hv
    obtain ⟨rfl, rfl, rfl⟩ := hv
    refine .inr ⟨b, off, C, hb, by rw [List.length_take, Nat.min_eq_left hm], fun i x hi j u hj => hx i x ?_ j u hj⟩
    rw [List.getElem?_take] at hi
    split at hi
    · exact hi
    · simp at hi
/-- s[m:] -/
theorem rows_drop {a : Addr} {n C m : Nat} (h : Rows k enc w (.slice (some a) n C) l) (hm : m ≤ n) : Rows k enc w (.slice (some (a.add (m * k))) (n - m) (C - m)) (l.drop m) := by
  rcases h with ⟨rfl, A', c, hv, hc⟩ | ⟨b, off, c, hb, hv, hx⟩
  · simp only [Value.slice.injEq] at hv
    obtain ⟨rfl, rfl, rfl⟩ := hv
    exact .inl ⟨by simp, _, _, by rw [Nat.zero_sub], fun h => by cases h⟩
  · simp only [Value.slice.injEq, Option.some.injEq] at hv
    obtain ⟨rfl, rfl, rfl⟩ := hv
    refine .inr ⟨b, off + m * k, C - m, hb, by rw [Addr.add_lit, List.length_drop], fun i x hi j u hj => ?_⟩
    rw [List.getElem?_drop] at hi
    have := hx (m + i) x hi j u hj
    rwa [show off + (m + i) * k + j = off + m * k + i * k + j by rw [Nat.add_mul]; omega] at this
end
end Go.Proofs.Ytjiaemmhjkhdhaa

/- A slice that came in, whose elements are made of integers and bools, opened to the list that it reads as. No condition. -/
import Derived.Test.YtjiaemmhjkhdhaaRow
import Derived.Test.YtjiaemmhjkhdhaaLeaf
import Derived.Deep.Slices
namespace Go.Proofs.Ytjiaemmhjkhdhaa.Leaf
open Go.ChangeShapes Go.WideShapes Go.Deep Go.RowKit
variable {H : Type} {enc : TypeId × Value → H} {P : Program} {w : World} {base : Nat} {spare : Nat → Bool} {held : Bool}

theorem open_rows {α : Type} [Inhabited α] {n : Nat} {r : Reach} {b0 : Nat} {t e : TypeId} {ks : List (Option IntKind)} {v : Value} {d : DataW H} {p : List MemPlace} (k : Nat) (encA : α → List Value) (wfA : α → Prop)
    (ht : P.underlying t = some (.slice e)) (hk : leaves P n e = some ks) (hkl : P.cellsOf e = k) (k0 : 0 < k) (hlen : ∀ x, (encA x).length = k) (he : ∀ cs, All ks cs → ∃ x, cs = encA x ∧ wfA x)
    (hv : Value.okWide P w r b0 t v) (h : DataW.Trod enc P w base spare held t v d p) :
    ∃ l : List α, Rows k encA w v l ∧ (l.length : Int) ≤ 9223372036854775807 ∧ (∀ A n c, v = .slice A n c → n ≤ c ∧ c ≤ 9223372036854775807) ∧ ∀ x ∈ l, wfA x := by
  obtain ⟨a, len, cap, rfl⟩ := okWide_slice ht hv
  obtain ⟨fuel, hf⟩ := h
  have hf' : DataW.trod enc P w base spare held fuel t [.slice a len cap] = some (d, p) := by simpa [Value.cells] using hf
  rcases open_slice ht hf' with ⟨h1, _⟩ | ⟨a', len', cap', m, fu, D, Pl, h1, hb, hl, hm, hmm, _, hx⟩
  · simp only [List.cons.injEq, Value.slice.injEq, and_true] at h1
    obtain ⟨rfl, rfl, rfl⟩ := h1
    exact ⟨[], .inl ⟨rfl, none, 0, rfl, fun _ => rfl⟩, by simp, fun A n c h => by simp only [Value.slice.injEq] at h; omega, fun x hx => by simp at hx⟩
  · simp only [List.cons.injEq, Value.slice.injEq, and_true] at h1
    obtain ⟨rfl, rfl, rfl⟩ := h1
    have hle : len ≤ m := by rw [hmm]; split <;> omega
    have key : ∀ i, i < len → ∃ x : α, wfA x ∧ ∀ j u, (encA x)[j]? = some u → w.cell? (a'.add (i * k + j)) = some u := by
      intro i hi
      obtain ⟨cs, hc1, hc2⟩ := hx i (by omega)
      obtain ⟨x, rfl, hw⟩ := he cs (trod_all n fu e ks cs _ hk hc2)
      refine ⟨x, hw, fun j u hj => ?_⟩
      obtain ⟨_, _, hget⟩ := World.cells?_some hc1
      have hjk : j < k := by
        have := (List.getElem?_eq_some_iff.1 hj).1
        rw [hlen] at this; exact this
      have := hget j (by rw [hkl]; exact hjk)
      rw [hkl, Addr.add_add] at this
      rw [this, hj]
    obtain ⟨f, hf2⟩ := choose_lt key
    refine ⟨(List.range len).map f, ?_, by simp; unfold maxLen at hm; omega, fun A n c h => by simp only [Value.slice.injEq] at h; unfold maxLen at hm; omega, ?_⟩
    · by_cases h0 : len = 0
      · subst h0
        exact .inl ⟨rfl, _, _, rfl, fun h => by cases h⟩
      · have hj0 : ∃ u, (encA (f 0))[0]? = some u := by
          have := hlen (f 0)
          exact ⟨_, List.getElem?_eq_getElem (by omega)⟩
        obtain ⟨u, hj⟩ := hj0
        have hcell := (hf2 0 (by omega)).2 0 u hj
        obtain ⟨ab, ao, asp⟩ := a'
        have hsp : asp = none := by
          cases asp with
          | none => rfl
          | some s =>
            simp only [World.cell?, Addr.add] at hcell
            split at hcell
            · simp at hcell
            · simp at hcell
        subst hsp
        refine .inr ⟨ab, ao, cap, (by have := block_lt_of_cell hcell; rwa [Addr.add_lit] at this), by simp, fun i x hi j u hj => ?_⟩
        have hil : i < len := by
          have := (List.getElem?_eq_some_iff.1 hi).1
          simpa using this
        rw [List.getElem?_map, List.getElem?_range hil] at hi
        simp only [Option.map_some, Option.some.injEq] at hi
        subst hi
        have := (hf2 i hil).2 j u hj
        rw [Addr.add_lit] at this
        rwa [Nat.add_assoc]
    · intro x hx2
      obtain ⟨i, hi, rfl⟩ := List.mem_map.1 hx2
      exact (hf2 i (by simpa using hi)).1
end Go.Proofs.Ytjiaemmhjkhdhaa.Leaf

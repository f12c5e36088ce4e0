/- A struct that came in, some of whose fields are slices of elements that are made of integers and bools, opened field by field. No condition. -/
import Derived.Test.YtjiaemmhjkhdhaaOpenRow
namespace Go.Proofs.Ytjiaemmhjkhdhaa.Leaf
open Go.ChangeShapes Go.WideShapes Go.Deep Go.RowKit
variable {H : Type} {enc : TypeId × Value → H} {P : Program} {w : World} {base : Nat} {spare : Nat → Bool} {held : Bool}

theorem open_rows_in {α : Type} [Inhabited α] {n : Nat} {t e : TypeId} {ks : List (Option IntKind)} {v : Value} {fuel : Nat} {x : DataW H × List MemPlace} (k : Nat) (encA : α → List Value) (wfA : α → Prop)
    (ht : P.underlying t = some (.slice e)) (hk : leaves P n e = some ks) (hkl : P.cellsOf e = k) (k0 : 0 < k) (hlen : ∀ x, (encA x).length = k) (he : ∀ cs, All ks cs → ∃ x, cs = encA x ∧ wfA x)
    (hf' : DataW.trod enc P w base spare held fuel t [v] = some x) :
    ∃ l : List α, Rows k encA w v l ∧ (l.length : Int) ≤ 9223372036854775807 ∧ (∀ A n c, v = .slice A n c → n ≤ c ∧ c ≤ 9223372036854775807) ∧ ∀ x ∈ l, wfA x := by
  rcases open_slice ht hf' with ⟨h1, _⟩ | ⟨a', len, cap, m, fu, D, Pl, h1, hb, hl, hm, hmm, _, hx⟩
  · simp only [List.cons.injEq, and_true] at h1
    subst h1
    exact ⟨[], .inl ⟨rfl, none, 0, rfl, fun _ => rfl⟩, by simp, fun A n c h => by simp only [Value.slice.injEq] at h; omega, fun x hx => by simp at hx⟩
  · simp only [List.cons.injEq, and_true] at h1
    subst h1
    have hle : len ≤ m := by rw [hmm]; split <;> omega
    have key : ∀ i, i < len → ∃ x : α, wfA x ∧ ∀ j u, (encA x)[j]? = some u → w.cell? (a'.add (i * k + j)) = some u := by
      intro i hi
      obtain ⟨cs, hc1, hc2⟩ := hx i (by omega)
      obtain ⟨x, rfl, hw⟩ := he cs (trod_all n fu e ks cs _ hk hc2)
      refine ⟨x, hw, fun j u hj => ?_⟩
      obtain ⟨_, _, hget⟩ := World.cells?_some hc1
      have hjk : j < k := by
        have := (List.getElem?_eq_some_iff.1 hj).1
        rw [hlen] at this; exact this
      have := hget j (by rw [hkl]; exact hjk)
      rw [hkl, Addr.add_add] at this
      rw [this, hj]
    obtain ⟨f, hf2⟩ := choose_lt key
    refine ⟨(List.range len).map f, ?_, by simp; unfold maxLen at hm; omega, fun A n c h => by simp only [Value.slice.injEq] at h; unfold maxLen at hm; omega, ?_⟩
    · by_cases h0 : len = 0
      · subst h0
        exact .inl ⟨rfl, _, _, rfl, fun h => by cases h⟩
      · have hj0 : ∃ u, (encA (f 0))[0]? = some u := by
          have := hlen (f 0)
          exact ⟨_, List.getElem?_eq_getElem (by omega)⟩
        obtain ⟨u, hj⟩ := hj0
        have hcell := (hf2 0 (by omega)).2 0 u hj
        obtain ⟨ab, ao, asp⟩ := a'
        have hsp : asp = none := by
          cases asp with
          | none => rfl
          | some s =>
            simp only [World.cell?, Addr.add] at hcell
            split at hcell
            · simp at hcell
            · simp at hcell
        subst hsp
        refine .inr ⟨ab, ao, cap, (by have := block_lt_of_cell hcell; rwa [Addr.add_lit] at this), by simp, fun i x hi j u hj => ?_⟩
        have hil : i < len := by
          have := (List.getElem?_eq_some_iff.1 hi).1
          simpa using this
        rw [List.getElem?_map, List.getElem?_range hil] at hi
        simp only [Option.map_some, Option.some.injEq] at hi
        subst hi
        have := (hf2 i hil).2 j u hj
        rw [Addr.add_lit] at this
        rwa [Nat.add_assoc]
    · intro x hx2
      obtain ⟨i, hi, rfl⟩ := List.mem_map.1 hx2
      exact (hf2 i (by simpa using hi)).1

/-- a struct of two fields of one cell each -/
theorem open_two {r : Reach} {b0 : Nat} {t t0 t1 : TypeId} {fs : Array Field} {v : Value} {d : DataW H} {p : List MemPlace} (hu : P.underlying t = some (.struct fs))
    (h0 : fs[0]?.map (fun f => (f.type, f.offset)) = some (t0, 0)) (h1 : fs[1]?.map (fun f => (f.type, f.offset)) = some (t1, 1)) (c : P.cellsOf t = 2) (c0 : P.cellsOf t0 = 1) (c1 : P.cellsOf t1 = 1)
    (hv : Value.okWide P w r b0 t v) (h : DataW.Trod enc P w base spare held t v d p) :
    ∃ (u0 u1 : Value) (m : Nat) (x0 x1 : DataW H × List MemPlace), v = .agg #[u0, u1] ∧ DataW.trod enc P w base spare held m t0 [u0] = some x0 ∧ DataW.trod enc P w base spare held m t1 [u1] = some x1 := by
  have : ∃ cs : Array Value, v = .agg cs := by
    unfold Value.okWide at hv; rw [hu] at hv; obtain ⟨cs, h1, _⟩ := hv; exact ⟨cs, h1⟩
  obtain ⟨cs, rfl⟩ := this
  obtain ⟨fuel, hf⟩ := h
  have hf1 : DataW.trod enc P w base spare held fuel t cs.toList = some (d, p) := by simpa [Value.cells] using hf
  obtain ⟨xs, m, e, _, hcl, hxl, hx⟩ := DataW.trod_struct hu hf1
  rw [c] at hcl
  obtain ⟨u0, u1, hcs⟩ : ∃ u0 u1, cs.toList = [u0, u1] := by
    match hl : cs.toList, hcl with
    | [a, b], _ => exact ⟨a, b, rfl⟩
  have hcs' : cs = #[u0, u1] := by rw [← Array.toArray_toList (xs := cs), hcs]
  rw [Option.map_eq_some_iff] at h0 h1
  obtain ⟨f0, hf0, e0⟩ := h0
  obtain ⟨f1, hf1', e1⟩ := h1
  simp only [Prod.mk.injEq] at e0 e1
  have y0 := hx 0 f0 hf0
  have y1 := hx 1 f1 hf1'
  rw [e0.1, e0.2, hcs, c0] at y0
  rw [e1.1, e1.2, hcs, c1] at y1
  have s0 : 0 < fs.size := (Array.getElem?_eq_some_iff.1 hf0).1
  have s1 : 1 < fs.size := (Array.getElem?_eq_some_iff.1 hf1').1
  rw [List.getElem?_eq_getElem (by omega)] at y0 y1
  exact ⟨u0, u1, m, _, _, by rw [hcs'], y0, y1⟩
end Go.Proofs.Ytjiaemmhjkhdhaa.Leaf

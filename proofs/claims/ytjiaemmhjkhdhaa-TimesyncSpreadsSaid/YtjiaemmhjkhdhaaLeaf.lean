/- What came in and reads as data, opened to its cells: any type made of integers and bools by structs and arrays, whatever the nesting; by value, and as a slice's element. No condition. -/
import Derived.ProofKit
import Derived.Deep.Slices
import Derived.OpenShut
import Derived.KernelRfl
namespace Go.Proofs.Ytjiaemmhjkhdhaa.Leaf
open Go.ChangeShapes Go.WideShapes Go.Deep

/-- the cells of a type, in order: 'some k' an integer of kind k, 'none' a bool -/
def fieldsLv (g : TypeId → Option (List (Option IntKind))) (c : TypeId → Nat) : List Field → Nat → Option (List (Option IntKind))
  | [], _ => some []
  | f :: r, off =>
    match g f.type with
    | some l => if f.offset = off ∧ l.length = c f.type then (fieldsLv g c r (off + l.length)).map (l ++ ·) else none
    | none => none

def leaves (P : Program) : Nat → TypeId → Option (List (Option IntKind))
  | 0, _ => none
  | n + 1, t =>
    match P.underlying t with
    | some (.int k) => some [some k]
    | some .bool => some [none]
    | some (.struct fs) => (fieldsLv (leaves P n) P.cellsOf fs.toList 0).bind fun l => if l.length = P.cellsOf t then some l else none
    | some (.array m e) => (leaves P n e).bind fun l => if l.length = P.cellsOf e ∧ m * l.length = P.cellsOf t then some (List.replicate m l).flatten else none
    | _ => none

def IsLeaf : Option IntKind → Value → Prop
  | some k, v => ∃ n, v = .int k n ∧ (Lit.int k n).wf = true
  | none, v => ∃ b, v = .bool b

def All : List (Option IntKind) → List Value → Prop
  | [], [] => True
  | k :: ks, v :: vs => IsLeaf k v ∧ All ks vs
  | _, _ => False

theorem All.length : ∀ {ks : List (Option IntKind)} {vs : List Value}, All ks vs → vs.length = ks.length
  | [], [], _ => rfl
  | _ :: _, _ :: _, h => by simp [All.length h.2]
  | [], _ :: _, h => h.elim
  | _ :: _, [], h => h.elim

theorem All.append : ∀ {ks ls : List (Option IntKind)} {vs us : List Value}, All ks vs → All ls us → All (ks ++ ls) (vs ++ us)
  | [], _, [], _, _, k => k
  | _ :: _, _, _ :: _, _, h, k => ⟨h.1, All.append h.2 k⟩
  | [], _, _ :: _, _, h, _ => h.elim
  | _ :: _, _, [], _, h, _ => h.elim

theorem All.nil {vs : List Value} (h : All [] vs) : vs = [] := by
  cases vs with
  | nil => rfl
  | cons a b => exact h.elim
theorem All.cons {k : Option IntKind} {ks : List (Option IntKind)} {vs : List Value} (h : All (k :: ks) vs) : ∃ v us, vs = v :: us ∧ IsLeaf k v ∧ All ks us := by
  cases vs with
  | nil => exact h.elim
  | cons a b => exact ⟨a, b, rfl, h.1, h.2⟩
theorem All.int {k : IntKind} {ks : List (Option IntKind)} {vs : List Value} (h : All (some k :: ks) vs) : ∃ n us, vs = .int k n :: us ∧ (Lit.int k n).wf = true ∧ All ks us := by
  obtain ⟨v, us, rfl, ⟨n, rfl, hn⟩, h2⟩ := h.cons
  exact ⟨n, us, rfl, hn, h2⟩
theorem All.bool {ks : List (Option IntKind)} {vs : List Value} (h : All (none :: ks) vs) : ∃ b us, vs = .bool b :: us ∧ All ks us := by
  obtain ⟨v, us, rfl, ⟨b, rfl⟩, h2⟩ := h.cons
  exact ⟨b, us, rfl, h2⟩

section
variable {H : Type} {enc : TypeId × Value → H} {P : Program} {w : World} {base : Nat} {spare : Nat → Bool} {held : Bool}

theorem fields_all {n : Nat} {cs : List Value} {m : Nat}
    (ih : ∀ (t : TypeId) (ks : List (Option IntKind)) (ds : List Value) (x : DataW H × List MemPlace), leaves P n t = some ks → DataW.trod enc P w base spare held m t ds = some x → All ks ds) :
    ∀ (fs : List Field) (off : Nat) (ks : List (Option IntKind)), fieldsLv (leaves P n) P.cellsOf fs off = some ks → off + ks.length = cs.length →
      (∀ f ∈ fs, ∃ x, DataW.trod enc P w base spare held m f.type ((cs.drop f.offset).take (P.cellsOf f.type)) = some x) → All ks (cs.drop off)
  | [], off, ks, h, hl, _ => by
    simp only [fieldsLv, Option.some.injEq] at h
    subst h
    rw [List.drop_eq_nil_of_le (by simp at hl; omega)]
    trivial
  | f :: r, off, ks, h, hl, hf => by
    simp only [fieldsLv] at h
    split at h
    · rename_i l hl1
      split at h
      · rename_i hc
        obtain ⟨ho, hlen⟩ := hc
        rw [Option.map_eq_some_iff] at h
        obtain ⟨k2, h2, rfl⟩ := h
        obtain ⟨x, hx⟩ := hf f (by simp)
        have a1 := ih _ _ _ _ hl1 hx
        have a2 := fields_all ih r (off + l.length) k2 h2 (by simp at hl; omega) (fun g hg => hf g (by simp [hg]))
        have a3 := a1.append a2
        rw [ho, ← hlen] at a3
        have e : (cs.drop off).take l.length ++ cs.drop (off + l.length) = cs.drop off := by
          rw [← List.drop_drop, List.take_append_drop]
        rwa [e] at a3
      · exact absurd h (by simp)
    · exact absurd h (by simp)

theorem array_all {l : List (Option IntKind)} {cs : List Value} (m : Nat) (hl : m * l.length = cs.length) (hf : ∀ i, i < m → All l ((cs.drop (i * l.length)).take l.length)) :
    ∀ j, j ≤ m → All (List.replicate j l).flatten (cs.drop ((m - j) * l.length))
  | 0, _ => by
    rw [List.drop_eq_nil_of_le (by simp; omega)]
    trivial
  | j + 1, hj => by
    have a1 := hf (m - (j + 1)) (by omega)
    have a2 := array_all m hl hf j (by omega)
    have a3 := a1.append a2
    rw [List.replicate_succ, List.flatten_cons]
    have e : (m - j) * l.length = (m - (j + 1)) * l.length + l.length := by
      rw [show m - j = (m - (j + 1)) + 1 by omega, Nat.add_mul, Nat.one_mul]
    have e2 : (cs.drop ((m - (j + 1)) * l.length)).take l.length ++ cs.drop ((m - j) * l.length) = cs.drop ((m - (j + 1)) * l.length) := by
      rw [e, ← List.drop_drop, List.take_append_drop]
    rwa [e2] at a3

/-- what reads as data at such a type is its leaves -/
theorem trod_all : ∀ (n : Nat) (fuel : Nat) (t : TypeId) (ks : List (Option IntKind)) (cs : List Value) (x : DataW H × List MemPlace), leaves P n t = some ks → DataW.trod enc P w base spare held fuel t cs = some x → All ks cs
  | 0, _, _, _, _, _, h, _ => by simp [leaves] at h
  | n + 1, fuel, t, ks, cs, x, h, hx => by
    rw [leaves] at h
    split at h
    · rename_i k hu
      obtain ⟨z, rfl, _, hw⟩ := DataW.trod_int hu hx
      simp only [Option.some.injEq] at h
      subst h
      exact ⟨⟨z, rfl, hw⟩, trivial⟩
    · rename_i hu
      obtain ⟨b, rfl, _⟩ := DataW.trod_bool hu hx
      simp only [Option.some.injEq] at h
      subst h
      exact ⟨⟨b, rfl⟩, trivial⟩
    · rename_i fs hu
      rw [Option.bind_eq_some_iff] at h
      obtain ⟨l, hl, h⟩ := h
      split at h
      · rename_i hlen
        simp only [Option.some.injEq] at h
        subst h
        obtain ⟨xs, m, rfl, _, hcl, hxl, hf⟩ := DataW.trod_struct hu hx
        have := fields_all (cs := cs) (fun t ks ds x h1 h2 => trod_all n m t ks ds x h1 h2) fs.toList 0 l hl (by omega) (fun f hfm => by
          obtain ⟨i, hi, rfl⟩ := List.getElem_of_mem hfm
          have hi' : i < fs.size := by simpa using hi
          have h3 := hf i fs.toList[i] (by simp [hi'])
          rw [List.getElem?_eq_getElem (by omega)] at h3
          exact ⟨_, h3⟩)
        simpa using this
      · exact absurd h (by simp)
    · rename_i m e hu
      rw [Option.bind_eq_some_iff] at h
      obtain ⟨l, hl, h⟩ := h
      split at h
      · rename_i hlen
        simp only [Option.some.injEq] at h
        subst h
        obtain ⟨xs, k, rfl, _, hcl, hxl, hf⟩ := DataW.trod_array hu hx
        have := array_all (l := l) (cs := cs) m (by omega) (fun i hi => by
          have h3 := hf i hi
          rw [List.getElem?_eq_getElem (by omega), ← hlen.1] at h3
          exact trod_all n k e l _ _ hl h3) m (Nat.le_refl _)
        simpa using this
      · exact absurd h (by simp)
    · exact absurd h (by simp)

/-- such a struct or array by value -/
theorem open_value {n : Nat} {r : Reach} {b0 : Nat} {t : TypeId} {ks : List (Option IntKind)} {v : Value} {d : DataW H} {p : List MemPlace} (hk : leaves P n t = some ks)
    (hs : (∃ fs, P.underlying t = some (.struct fs)) ∨ (∃ m e, P.underlying t = some (.array m e))) (hv : Value.okWide P w r b0 t v) (h : DataW.Trod enc P w base spare held t v d p) :
    ∃ cs : List Value, v = .agg cs.toArray ∧ All ks cs := by
  have : ∃ cs : Array Value, v = .agg cs := by
    rcases hs with ⟨fs, hs⟩ | ⟨m, e, hs⟩
    · unfold Value.okWide at hv; rw [hs] at hv; obtain ⟨cs, h1, _⟩ := hv; exact ⟨cs, h1⟩
    · unfold Value.okWide at hv; rw [hs] at hv; obtain ⟨cs, h1, _⟩ := hv; exact ⟨cs, h1⟩
  obtain ⟨cs, rfl⟩ := this
  obtain ⟨fuel, hf⟩ := h
  refine ⟨cs.toList, by simp, trod_all n fuel t ks cs.toList _ hk (by simpa [Value.cells] using hf)⟩
end
end Go.Proofs.Ytjiaemmhjkhdhaa.Leaf

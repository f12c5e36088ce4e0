/- Slices in memory that read as lists: each element is a fixed number of cells. No condition. -/
import Derived.Test.YtjiaemmhjkhdhaaGr
import Derived.Shelf.SlicesQ.Load
import Derived.Laws.AppendOwnNone
namespace Go.Proofs.Ytjiaemmhjkhdhaa
open Go.RowKit Go.Sort

/-- the slice value v reads in w as the list l; an element's k cells are enc -/
def Rows {α : Type} (k : Nat) (enc : α → List Value) (w : World) (v : Value) (l : List α) : Prop :=
  (l = [] ∧ ∃ A c, v = .slice A 0 c ∧ (A = none → c = 0)) ∨
  (∃ b off c, b < w.heap.size ∧ v = .slice (some ⟨b, off, none⟩) l.length c ∧ ∀ i x, l[i]? = some x → ∀ j u, (enc x)[j]? = some u → w.cell? ⟨b, off + i * k + j, none⟩ = some u)

section
variable {α : Type} {k : Nat} {enc : α → List Value} {w : World} {v : Value} {l : List α}

theorem Rows.gr {a : World} (h : Rows k enc a v l) (g : Gr a w) : Rows k enc w v l := by
  rcases h with h | ⟨b, off, c, hb, hv, hc⟩
  · exact .inl h
  · exact .inr ⟨b, off, c, Nat.lt_of_lt_of_le hb g.size, hv, fun i x hi j u hj => (g.cell hb).trans (hc i x hi j u hj)⟩

theorem Rows.slice (h : Rows k enc w v l) : ∃ A c, v = .slice A l.length c := by
  rcases h with ⟨rfl, A, c, rfl, _⟩ | ⟨b, off, c, hb, rfl, hc⟩
  · exact ⟨A, c, rfl⟩
  · exact ⟨_, c, rfl⟩
theorem Rows.nil (A : Option Addr) (c : Nat) (h : A = none → c = 0 := by first | (intro _; rfl) | (intro h; cases h)) : Rows k enc w (.slice A 0 c) ([] : List α) := .inl ⟨rfl, A, c, rfl, h⟩

theorem flat_get (hk : ∀ x, (enc x).length = k) : ∀ (l : List α) (i j : Nat) (x : α), l[i]? = some x → j < k → ((l.map enc).flatten)[i * k + j]? = (enc x)[j]?
  | [], i, j, x, h, _ => by simp at h
  | a :: l, 0, j, x, h, hj => by
    simp at h
    subst h
    simp only [List.map_cons, List.flatten_cons, Nat.zero_mul, Nat.zero_add]
    rw [List.getElem?_append_left (by rw [hk]; exact hj)]
  | a :: l, i + 1, j, x, h, hj => by
    simp only [List.getElem?_cons_succ] at h
    simp only [List.map_cons, List.flatten_cons]
    rw [List.getElem?_append_right (by rw [hk, Nat.add_mul]; omega), hk, show (i + 1) * k + j - k = i * k + j by rw [Nat.add_mul]; omega]
    exact flat_get hk l i j x h hj

theorem flat_len (hk : ∀ x, (enc x).length = k) : ∀ (l : List α), ((l.map enc).flatten).length = l.length * k
  | [] => by simp
  | a :: l => by
    rw [List.map_cons, List.flatten_cons, List.length_append, hk, flat_len hk l, List.length_cons, Nat.add_mul]
    omega

theorem Rows.of_owns {base e : Nat} (hk : ∀ x, (enc x).length = k) (h : w.ownsRow base e k v l.length ((l.map enc).flatten)) : Rows k enc w v l := by
  have hc := fun g hg => h.cells (g := g) hg
  have hlt := h.lt
  rcases h.2 with ⟨rfl, h0⟩ | ⟨g, cap, cur, rfl, _⟩
  · exact .inl ⟨List.eq_nil_of_length_eq_zero h0, none, 0, rfl, fun _ => rfl⟩
  · refine .inr ⟨g, 0, cap, (hlt g rfl).2, rfl, fun i x hi j u hj => ?_⟩
    have hjk : j < k := by
      have := (List.getElem?_eq_some_iff.1 hj).1
      rw [hk] at this; exact this
    have := hc g rfl (i * k + j) u (by rw [flat_get hk l i j x hi hjk]; exact hj)
    rw [Addr.add_lit, ← Nat.add_assoc] at this
    exact this

/-- a row of cells of a block's literal -/
theorem Rows.take {n c : Nat} {b off : Nat} (hb : b < w.heap.size) (hn : n = l.length) (h : ∀ i x, l[i]? = some x → ∀ j u, (enc x)[j]? = some u → w.cell? ⟨b, off + i * k + j, none⟩ = some u) : Rows k enc w (.slice (some ⟨b, off, none⟩) n c) l :=
  .inr ⟨b, off, c, hb, by rw [hn], h⟩

theorem Rows.load (P : Program) {b off : Nat} (hk : ∀ x, (enc x).length = k) (h : ∀ i x, l[i]? = some x → ∀ j u, (enc x)[j]? = some u → w.cell? ⟨b, off + i * k + j, none⟩ = some u) (i : Nat) (x : α) (hi : l[i]? = some x) :
    Sem.run P (loadCellsFrom ⟨b, off + i * k, none⟩ 0 k #[]) w = .ok (enc x).toArray w :=
  run_loadCellsFrom_list P _ _ (enc x) k (hk x) fun j u hj => by rw [Addr.add_lit]; exact h i x hi j u hj
end

theorem owns_slice {w : World} {base e size n : Nat} {v : Value} {xs : List Value} (h : w.ownsRow base e size v n xs) : ∃ A c, v = .slice A n c := by
  rcases h.2 with ⟨rfl, rfl⟩ | ⟨g, cap, cur, rfl, _⟩
  · exact ⟨_, _, rfl⟩
  · exact ⟨_, _, rfl⟩

theorem owns_gr {a w : World} {base e size n : Nat} {v : Value} {xs : List Value} (h : a.ownsRow base e size v n xs) (g : Gr a w) : w.ownsRow base e size v n xs := by
  refine ⟨h.1, ?_⟩
  rcases h.2 with h2 | ⟨b, cap, cur, h2, h3, h4, h5⟩
  · exact .inl h2
  · have hb : b < a.heap.size := by
      by_cases q : b < a.heap.size
      · exact q
      · rw [Array.getElem?_eq_none (by omega)] at h4; cases h4
    exact .inr ⟨b, cap, cur, h2, h3, (g.block b hb).trans h4, h5⟩

/-- append(out, xs...) onto a row of the call's own, whatever xs reads as -/
theorem wpList_append_rows {α : Type} {size : Nat} {enc : α → List Value} {P : Program} {w : World} {ops : Array Oper} {rest : List Oper} {o : Oper} {a : Act} {Q : Exit → Act → World → Prop} (hgd : o.guard = none) (s x : Operand) (t : TypeId)
    (ho : o.op = .call { callee := .builtin .append, args := #[s, x], argTypes := #[t, t] })
    (base : Nat) (e : TypeId) (i : TypeInfo) (z : Value) (bytes : Nat) (ht : P.underlying t = some (.slice e)) (hi : P.info? e = some i) (hz : i.zero = some z)
    (hsize : i.size = size) (hby : i.bytes = bytes) (hzs : z.cells.size = size) (hsz : 0 < size) (hk : ∀ x, (enc x).length = size) (h1 : ∀ x, ∀ u ∈ enc x, u.oneCell' = true)
    (v : Value) (n : Nat) (xs : List Value) (hs : a.eval s = v) (hown : w.ownsRow base e size v n xs) (l : List α) (u : Value) (hx : a.eval x = u) (hl : Rows size enc w u l)
    (h63 : n + l.length ≤ maxLen) (hbytes : (n + l.length) * bytes ≤ 140737488355328) (hbase : base ≤ w.heap.size)
    (h : ∀ v' w', w'.ownsRow base e size v' (n + l.length) (xs ++ (l.map enc).flatten) → w.grownBy w' v.ownBlock → (v' = .slice none 0 0 ↔ v = .slice none 0 0 ∧ l = []) → wpList P ops Q rest (a.put o.dst v') w') : wpList P ops Q (o :: rest) a w := by
  rcases hl with ⟨rfl, A, c, rfl, hA⟩ | ⟨b, off, c, hb, rfl, hc⟩
  · cases A with
    | none =>
      obtain rfl := hA rfl
      refine wpList_append_own_none hgd s x t ho base e i size ht hi v n xs hs hown hx (h v w ?_ ⟨rfl, rfl, rfl, Nat.le_refl _, fun _ _ _ => rfl⟩ (by simp))
      simpa using hown
    | some ad =>
      refine wpList_append_own w hgd s x t ho base e i z size bytes ht hi hz hsize hby hzs hsz v n xs hs hown ad 0 c [] hx (by simp) (by simp) (by simp) (by simpa using h63) (by simpa using hbytes) hbase fun v' w' h2 h3 h4 => ?_
      exact h v' w' (by simpa using h2) h3 (by simpa using h4)
  · refine wpList_append_own w hgd s x t ho base e i z size bytes ht hi hz hsize hby hzs hsz v n xs hs hown ⟨b, off, none⟩ l.length c ((l.map enc).flatten) hx (flat_len hk l) (fun j u hj => ?_) (fun u hu => ?_) h63 hbytes hbase fun v' w' h2 h3 h4 => ?_
    · have hj2 : j < l.length * size := by
        have := (List.getElem?_eq_some_iff.1 hj).1
        rwa [flat_len hk] at this
      have hi2 : j / size < l.length := Nat.div_lt_of_lt_mul (by rwa [Nat.mul_comm])
      have hm : j / size * size + j % size = j := by rw [Nat.mul_comm]; exact Nat.div_add_mod _ _
      have hg := flat_get hk l (j / size) (j % size) l[j / size] (List.getElem?_eq_getElem hi2) (Nat.mod_lt _ hsz)
      rw [hm, hj] at hg
      have := hc (j / size) l[j / size] (List.getElem?_eq_getElem hi2) (j % size) u hg.symm
      rw [Addr.add_lit]
      rwa [Nat.add_assoc, hm] at this
    · obtain ⟨y, hy, hu2⟩ := List.mem_flatten.1 hu
      obtain ⟨z', hz', rfl⟩ := List.mem_map.1 hy
      exact h1 z' u hu2
    · exact h v' w' h2 h3 (by rw [h4, List.length_eq_zero_iff])

/-- a slice of ints -/
abbrev encI (n : Int) : List Value := [.int .i64 n]
theorem encI_len (n : Int) : (encI n).length = 1 := rfl
theorem flat_int (l : List Int) : ((l.map encI).flatten) = l.map (Value.int .i64) := by
  induction l with
  | nil => rfl
  | cons a l ih => simp only [List.map_cons, List.flatten_cons, ih]; rfl
theorem Rows.ints_of_owns {w : World} {v : Value} {l : List Int} {base e : Nat} (h : w.ownsRow base e 1 v l.length (l.map (Value.int .i64))) : Rows 1 encI w v l :=
  Rows.of_owns encI_len (by rw [flat_int]; exact h)
theorem Rows.ints_of {w : World} {v : Value} {l : List Int} {n base e : Nat} (h : w.ownsRow base e 1 v n (l.map (Value.int .i64))) (hn : l.length = n) : Rows 1 encI w v l := by
  subst hn
  exact Rows.ints_of_owns h
theorem Rows.int_cell {w : World} {l : List Int} {b off : Nat} (h : ∀ i x, l[i]? = some x → ∀ j u, (encI x)[j]? = some u → w.cell? ⟨b, off + i * 1 + j, none⟩ = some u) (i : Nat) (hi : i < l.length) : w.cell? ⟨b, off + i, none⟩ = some (.int .i64 l[i]) := by
  have := h i l[i] (List.getElem?_eq_getElem hi) 0 (.int .i64 l[i]) rfl
  simpa using this
end Go.Proofs.Ytjiaemmhjkhdhaa

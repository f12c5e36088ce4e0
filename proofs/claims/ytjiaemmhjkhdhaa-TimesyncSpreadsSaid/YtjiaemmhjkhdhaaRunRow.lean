/- States and corrections as cells; a store of a whole element into a row of the call's own. No condition. -/
import Derived.Test.YtjiaemmhjkhdhaaRunPlain
import Derived.Test.YtjiaemmhjkhdhaaRow
import Derived.Laws.OwnMore
namespace Go.Proofs.Ytjiaemmhjkhdhaa
open Go.RowKit Go.Sort

abbrev encS (x : Sy) : List Value := [.int .i64 x.o, .int .i64 x.d, .int .i64 x.s, .int .i64 x.c]
theorem encS_len (x : Sy) : (encS x).length = 4 := rfl
abbrev encY (y : Yn) : List Value := [.int .i64 y.n, .int .i64 y.t, .bool y.a]
theorem encY_len (y : Yn) : (encY y).length = 3 := rfl

theorem flat_set {α : Type} {enc : α → List Value} {k : Nat} (hk : ∀ x, (enc x).length = k) : ∀ (l : List α) (i : Nat) (x : α), i < l.length → ((l.set i x).map enc).flatten = ((l.map enc).flatten).take (i * k) ++ enc x ++ ((l.map enc).flatten).drop (i * k + k)
  | [], i, x, h => absurd h (Nat.not_lt_zero _)
  | a :: l, 0, x, _ => by
    simp only [List.set_cons_zero, List.map_cons, List.flatten_cons, Nat.zero_mul, List.take_zero, List.nil_append, Nat.zero_add]
    rw [← hk a, List.drop_left]
  | a :: l, i + 1, x, h => by
    simp only [List.set_cons_succ, List.map_cons, List.flatten_cons]
    rw [flat_set hk l i x (by simpa using h), show (i + 1) * k = (enc a).length + i * k by rw [hk, Nat.add_mul]; omega, List.take_length_add_append,
      show (enc a).length + i * k + k = (enc a).length + (i * k + k) by omega, List.drop_length_add_append]
    simp [List.append_assoc]

theorem set4 (xs : List Value) (j : Nat) (a b c d : Value) (h : j + 4 ≤ xs.length) : (((xs.set j a).set (j + 1) b).set (j + 2) c).set (j + 3) d = xs.take j ++ [a, b, c, d] ++ xs.drop (j + 4) := by
  apply List.ext_getElem?
  intro i
  simp only [List.getElem?_set, List.length_set]
  by_cases h1 : i < j
  · rw [List.append_assoc, List.getElem?_append_left (by simp; omega), List.getElem?_take, if_neg (by omega), if_neg (by omega), if_neg (by omega), if_neg (by omega), if_pos h1]
  · by_cases h2 : i < j + 4
    · rw [List.append_assoc, List.getElem?_append_right (by simp; omega), List.getElem?_append_left (by simp; omega)]
      have hl : (xs.take j).length = j := by simp; omega
      rw [hl]
      have : i = j ∨ i = j + 1 ∨ i = j + 2 ∨ i = j + 3 := by omega
      rcases this with rfl | rfl | rfl | rfl
      · rw [if_neg (by omega), if_neg (by omega), if_neg (by omega), if_pos rfl, if_pos (by omega)]; simp
      · rw [if_neg (by omega), if_neg (by omega), if_pos rfl, if_pos (by omega)]; simp
      · rw [if_neg (by omega), if_pos rfl, if_pos (by omega)]; simp
      · rw [if_pos rfl, if_pos (by omega)]; simp
    · have hl : (xs.take j ++ [a, b, c, d]).length = j + 4 := by simp; omega
      rw [List.getElem?_append_right (by omega), hl, List.getElem?_drop, if_neg (by omega), if_neg (by omega), if_neg (by omega), if_neg (by omega)]
      congr 1
      omega

/-- a whole state is stored -/
theorem owns_store {w : World} {base e g n cap : Nat} {l : List Sy} (h : w.ownsRow base e 4 (.slice (some ⟨g, 0, none⟩) n cap) n ((l.map encS).flatten)) (hn : l.length = n) (i : Nat) (hi : i < n) (x : Sy) :
    ((((w.setCell ⟨g, i * 4, none⟩ (.int .i64 x.o)).setCell ⟨g, i * 4 + 1, none⟩ (.int .i64 x.d)).setCell ⟨g, i * 4 + 2, none⟩ (.int .i64 x.s)).setCell ⟨g, i * 4 + 3, none⟩ (.int .i64 x.c)).ownsRow base e 4 (.slice (some ⟨g, 0, none⟩) n cap) n (((l.set i x).map encS).flatten) := by
  have h1 := (h.stored (i * 4) (.int .i64 x.o)).1
  have h2 := (h1.stored (i * 4 + 1) (.int .i64 x.d)).1
  have h3 := (h2.stored (i * 4 + 2) (.int .i64 x.s)).1
  have h4 := (h3.stored (i * 4 + 3) (.int .i64 x.c)).1
  rw [flat_set encS_len l i x (by omega)]
  have hl : ((l.map encS).flatten).length = l.length * 4 := flat_len encS_len l
  rw [set4 _ _ _ _ _ _ (by rw [hl]; omega)] at h4
  exact h4
end Go.Proofs.Ytjiaemmhjkhdhaa

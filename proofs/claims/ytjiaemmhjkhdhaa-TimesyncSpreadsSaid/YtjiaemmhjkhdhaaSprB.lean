/- More plain laws of TimesyncSpreads: sorted depths; the least and the greatest time. No program. -/
import Derived.Test.YtjiaemmhjkhdhaaSprPlain
namespace Go.Proofs.Ytjiaemmhjkhdhaa.Ru

theorem dL_get {p : List Int} (h : Dp.okD p) {i : Nat} (hi : i < p.length) : (Dp.dL p)[i]? = some (Dp.dN p i) := by
  rw [(Dp.d_ok h).2, List.getElem?_map, List.getElem?_range hi]; rfl
theorem dN_bd {p : List Int} (h : Dp.okD p) {i : Nat} (hi : i < p.length) : 0 ≤ Dp.dN p i ∧ Dp.dN p i ≤ 32 := by
  obtain ⟨d, hd⟩ := Option.isSome_iff_exists.1 (h.2 i hi)
  rw [Dp.dN_some hd]
  have := Dp.dep_lt hi hd
  have := h.1.2.1
  omega
theorem dN_mono {p : List Int} (h : Dp.okD p) (hs : ∀ i x y, (Dp.dL p)[i]? = some x → (Dp.dL p)[i + 1]? = some y → x ≤ y) : ∀ i j, i ≤ j → j < p.length → Dp.dN p i ≤ Dp.dN p j := by
  intro i j
  induction j with
  | zero => intro hij _; rw [show i = 0 by omega]; exact Int.le_refl _
  | succ j ih =>
    intro hij hj
    by_cases e : i = j + 1
    · subst e; exact Int.le_refl _
    · have h1 := ih (by omega) (by omega)
      have h2 := hs j _ _ (dL_get h (by omega)) (dL_get h hj)
      omega
theorem dL_bd {p : List Int} (h : Dp.okD p) : ∀ x ∈ Dp.dL p, 0 ≤ x ∧ x ≤ 1000 := by
  intro x hx
  rw [(Dp.d_ok h).2] at hx
  obtain ⟨i, hi, rfl⟩ := List.mem_map.1 hx
  have := dN_bd h (List.mem_range.1 hi)
  omega
/-- the times so far -/
def SI (slot : Int) (l : List Sy) (k : Nat) (t u : Int) : Prop := (k = 0 ∧ t = -1 ∧ u = 0) ∨ (0 < k ∧ 0 < t ∧ t ≤ u ∧ u ≤ 1099511627776 ∧ ∀ j x, j < k → l[j]? = some x → snE x slot = 0 ∧ t ≤ sn x slot ∧ sn x slot ≤ u ∧ 0 < sn x slot)
theorem SI.bd {slot : Int} {l : List Sy} {k : Nat} {t u : Int} (h : SI slot l k t u) : (-1 ≤ t ∧ t ≤ 1099511627776) ∧ (0 ≤ u ∧ u ≤ 1099511627776) := by
  rcases h with ⟨_, h1, h2⟩ | ⟨_, h1, h2, h3, _⟩ <;> omega
theorem SI.step {slot : Int} {l : List Sy} {k : Nat} {t u : Int} {x : Sy} (h : SI slot l k t u) (hx : l[k]? = some x) (he : snE x slot = 0) (hp : 0 < sn x slot) (t' : Int) (ht : t' = if t < 0 ∨ sn x slot < t then sn x slot else t) : SI slot l (k + 1) t' (max u (sn x slot)) := by
  have hb := sn_bd he
  refine .inr ⟨by omega, ?_, ?_, ?_, fun j y hj hy => ?_⟩
  · rw [ht]; split
    · exact hp
    · rcases h with ⟨_, h1, _⟩ | ⟨_, h1, _⟩ <;> omega
  · rw [ht]; split
    · omega
    · rcases h with ⟨_, h1, _⟩ | ⟨_, h1, h2, _⟩ <;> omega
  · have := h.bd; omega
  · by_cases e : j = k
    · subst e
      rw [hx] at hy
      cases hy
      refine ⟨he, ?_, by omega, hp⟩
      rw [ht]; split <;> omega
    · rcases h with ⟨h0, _⟩ | ⟨_, h1, h2, h3, h4⟩
      · omega
      · obtain ⟨q1, q2, q3, q4⟩ := h4 j y (by omega) hy
        refine ⟨q1, ?_, by omega, q4⟩
        rw [ht]; split <;> omega
theorem SI.done {slot : Int} {l : List Sy} {t u : Int} (h : SI slot l l.length t u) (h0 : 0 < l.length) : 0 < t ∧ t ≤ u ∧ u ≤ 1099511627776 ∧ ∀ x ∈ l, snE x slot = 0 ∧ t ≤ sn x slot ∧ sn x slot ≤ u ∧ 0 < sn x slot := by
  rcases h with ⟨h1, _⟩ | ⟨_, h1, h2, h3, h4⟩
  · omega
  · refine ⟨h1, h2, h3, fun x hx => ?_⟩
    obtain ⟨j, hj⟩ := List.getElem?_of_mem hx
    exact h4 j x (List.getElem?_eq_some_iff.1 hj).1 hj
theorem prod_bd {D g : Int} (d0 : 0 ≤ D) (d1 : D ≤ 64) (g0 : 0 ≤ g) (g1 : g ≤ 219902328) : 0 ≤ D * g ∧ D * g ≤ 14073748992 := by
  refine ⟨Int.mul_nonneg d0 g0, ?_⟩
  have := Int.mul_le_mul d1 g1 g0 (by decide)
  omega
theorem sY_snoc (slot : Int) (k : Nat) : (List.range (k + 1)).map (yn slot) = (List.range k).map (yn slot) ++ [yn slot k] := by rw [List.range_succ, List.map_append]; rfl
end Go.Proofs.Ytjiaemmhjkhdhaa.Ru

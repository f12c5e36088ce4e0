/- Spread, plain: the greatest difference of what two of the clocks show. No program. -/
import Derived.Test.YtjiaemmhjkhdhaaRunPlain
namespace Go.Proofs.Ytjiaemmhjkhdhaa.Ru

theorem valid_of {o d : Int} (h : Ck.chk o d = 0) : Ck.Valid o d := by
  rcases Ck.chk_01 o d with ⟨_, v⟩ | ⟨h2, _⟩
  · exact v
  · rw [h] at h2; exact absurd h2 (by decide)
/-- how much more a shows than b -/
def df (t : Int) (a b : Sy) : Int := Ck.sh a.o a.d t - Ck.sh b.o b.d t
def spr (l : List Sy) (t : Int) : Int := (l.flatMap fun a => l.map fun b => df t a b).foldl max 0
def sprE (l : List Sy) (t : Int) : Int := if l.length ≤ 32 ∧ okL l then (if 0 ≤ t ∧ t ≤ 1099511627776 then 0 else 2) else 1
def sprN (l : List Sy) (t : Int) : Int := if l.length ≤ 32 ∧ okL l ∧ 0 ≤ t ∧ t ≤ 1099511627776 then spr l t else 0

def IsTop (l : List Sy) (t M : Int) : Prop := 0 ≤ M ∧ (∀ a ∈ l, ∀ b ∈ l, df t a b ≤ M) ∧ (M = 0 ∨ ∃ a ∈ l, ∃ b ∈ l, M = df t a b)

theorem foldl_max (l : List Int) : ∀ m, m ≤ l.foldl max m ∧ (∀ x ∈ l, x ≤ l.foldl max m) ∧ (l.foldl max m = m ∨ l.foldl max m ∈ l) := by
  induction l with
  | nil => intro m; exact ⟨Int.le_refl _, fun x hx => by simp at hx, .inl rfl⟩
  | cons y l ih =>
    intro m
    obtain ⟨h1, h2, h3⟩ := ih (max m y)
    simp only [List.foldl_cons]
    refine ⟨by omega, fun x hx => ?_, ?_⟩
    · rcases List.mem_cons.1 hx with rfl | hx
      · omega
      · exact h2 x hx
    · rcases h3 with h3 | h3
      · rw [h3]
        rcases Int.le_total m y with h | h
        · right; rw [Int.max_eq_right h]; simp
        · left; exact Int.max_eq_left h
      · exact .inr (List.mem_cons_of_mem _ h3)

theorem spr_top (l : List Sy) (t : Int) : IsTop l t (spr l t) := by
  obtain ⟨h1, h2, h3⟩ := foldl_max (l.flatMap fun a => l.map fun b => df t a b) 0
  refine ⟨h1, fun a ha b hb => h2 _ (List.mem_flatMap.2 ⟨a, ha, List.mem_map.2 ⟨b, hb, rfl⟩⟩), ?_⟩
  rcases h3 with h3 | h3
  · exact .inl h3
  · obtain ⟨a, ha, h4⟩ := List.mem_flatMap.1 h3
    obtain ⟨b, hb, h5⟩ := List.mem_map.1 h4
    exact .inr ⟨a, ha, b, hb, h5.symm⟩

theorem IsTop.eq {l : List Sy} {t M : Int} (h : IsTop l t M) : M = spr l t := by
  obtain ⟨a1, a2, a3⟩ := h
  obtain ⟨b1, b2, b3⟩ := spr_top l t
  have h1 : M ≤ spr l t := by
    rcases a3 with h | ⟨a, ha, b, hb, h⟩
    · omega
    · rw [h]; exact b2 a ha b hb
  have h2 : spr l t ≤ M := by
    rcases b3 with h | ⟨a, ha, b, hb, h⟩
    · omega
    · rw [h]; exact a2 a ha b hb
  omega

/-- the reference's rounds: all pairs (i, ·) with i less, and (i, k) with k less -/
def RT (l : List Sy) (t : Int) (i k : Nat) (M : Int) : Prop := 0 ≤ M ∧ (∀ x y a b, l[x]? = some a → l[y]? = some b → (x < i ∨ (x = i ∧ y < k)) → df t a b ≤ M) ∧ (M = 0 ∨ ∃ a ∈ l, ∃ b ∈ l, M = df t a b)
theorem RT.start (l : List Sy) (t : Int) : RT l t 0 0 0 := ⟨Int.le_refl _, fun x y a b _ _ h => by omega, .inl rfl⟩
theorem RT.step {l : List Sy} {t : Int} {i k : Nat} {M : Int} {a b : Sy} (h : RT l t i k M) (ha : l[i]? = some a) (hb : l[k]? = some b) : RT l t i (k + 1) (max M (df t a b)) := by
  obtain ⟨h1, h2, h3⟩ := h
  refine ⟨by omega, fun x y a' b' hx hy hh => ?_, ?_⟩
  · by_cases e : x = i ∧ y = k
    · obtain ⟨rfl, rfl⟩ := e
      rw [ha] at hx; rw [hb] at hy
      obtain rfl := Option.some.inj hx
      obtain rfl := Option.some.inj hy
      omega
    · have := h2 x y a' b' hx hy (by omega)
      omega
  · rcases Int.le_total M (df t a b) with hh | hh
    · rw [Int.max_eq_right hh]
      exact .inr ⟨a, List.mem_of_getElem? ha, b, List.mem_of_getElem? hb, rfl⟩
    · rw [Int.max_eq_left hh]
      exact h3
theorem RT.row {l : List Sy} {t : Int} {i : Nat} {M : Int} (h : RT l t i l.length M) : RT l t (i + 1) 0 M := by
  obtain ⟨h1, h2, h3⟩ := h
  refine ⟨h1, fun x y a b hx hy hh => h2 x y a b hx hy ?_, h3⟩
  have : y < l.length := (List.getElem?_eq_some_iff.1 hy).1
  omega
theorem RT.done {l : List Sy} {t M : Int} (h : RT l t l.length 0 M) : M = spr l t := by
  obtain ⟨h1, h2, h3⟩ := h
  refine IsTop.eq ⟨h1, fun a ha b hb => ?_, h3⟩
  obtain ⟨x, hx⟩ := List.mem_iff_getElem?.1 ha
  obtain ⟨y, hy⟩ := List.mem_iff_getElem?.1 hb
  exact h2 x y a b hx hy (.inl (List.getElem?_eq_some_iff.1 hx).1)

/-- the program's rounds: all pairs below i, and i with all below k -/
def PT (l : List Sy) (t : Int) (i k : Nat) (M : Int) : Prop := 0 ≤ M ∧ (∀ x y a b, l[x]? = some a → l[y]? = some b → ((x < i ∧ y < i) ∨ (x = i ∧ y < k) ∨ (y = i ∧ x < k)) → df t a b ≤ M) ∧ (M = 0 ∨ ∃ a ∈ l, ∃ b ∈ l, M = df t a b)
theorem df_neg (t : Int) (a b : Sy) : -(df t a b) = df t b a := by unfold df; omega
theorem PT.start (l : List Sy) (t : Int) : PT l t 0 0 0 := ⟨Int.le_refl _, fun x y a b _ _ h => by omega, .inl rfl⟩
theorem PT.step {l : List Sy} {t : Int} {i k : Nat} {M : Int} {a b : Sy} (h : PT l t i k M) (ha : l[i]? = some a) (hb : l[k]? = some b) : PT l t i (k + 1) (max (max M (df t b a)) (-(df t b a))) := by
  obtain ⟨h1, h2, h3⟩ := h
  have hn := df_neg t b a
  refine ⟨by omega, fun x y a' b' hx hy hh => ?_, ?_⟩
  · by_cases e : x = i ∧ y = k
    · obtain ⟨rfl, rfl⟩ := e
      rw [ha] at hx; rw [hb] at hy
      obtain rfl := Option.some.inj hx
      obtain rfl := Option.some.inj hy
      omega
    · by_cases e2 : y = i ∧ x = k
      · obtain ⟨rfl, rfl⟩ := e2
        rw [hb] at hx; rw [ha] at hy
        obtain rfl := Option.some.inj hx
        obtain rfl := Option.some.inj hy
        omega
      · have := h2 x y a' b' hx hy (by omega)
        omega
  · have hm : max (max M (df t b a)) (-(df t b a)) = M ∨ max (max M (df t b a)) (-(df t b a)) = df t b a ∨ max (max M (df t b a)) (-(df t b a)) = df t a b := by omega
    rcases hm with hm | hm | hm
    · rw [hm]; exact h3
    · rw [hm]; exact .inr ⟨b, List.mem_of_getElem? hb, a, List.mem_of_getElem? ha, rfl⟩
    · rw [hm]; exact .inr ⟨a, List.mem_of_getElem? ha, b, List.mem_of_getElem? hb, rfl⟩
theorem PT.to {l : List Sy} {t : Int} {i k : Nat} {M N : Int} (h : PT l t i k M) (e : M = N) : PT l t i k N := e ▸ h
/-- two clocks that are one -/
theorem PT.skip {l : List Sy} {t : Int} {i k : Nat} {M : Int} {a b : Sy} (h : PT l t i k M) (ha : l[i]? = some a) (hb : l[k]? = some b) (ho : a.o = b.o) (hd : a.d = b.d) : PT l t i (k + 1) M := by
  have h0 : df t b a = 0 := by unfold df; rw [ho, hd]; omega
  have := h.step ha hb
  rw [h0] at this
  have h1 := h.1
  rwa [show max (max M 0) (-0) = M by omega] at this
theorem PT.row {l : List Sy} {t : Int} {i : Nat} {M : Int} (h : PT l t i i M) : PT l t (i + 1) 0 M := by
  obtain ⟨h1, h2, h3⟩ := h
  refine ⟨h1, fun x y a b hx hy hh => ?_, h3⟩
  by_cases e : x = i ∧ y = i
  · obtain ⟨rfl, rfl⟩ := e
    rw [hx] at hy
    obtain rfl := Option.some.inj hy
    have : df t a a = 0 := by unfold df; omega
    omega
  · exact h2 x y a b hx hy (by omega)
theorem PT.done {l : List Sy} {t M : Int} (h : PT l t l.length 0 M) : M = spr l t := by
  obtain ⟨h1, h2, h3⟩ := h
  refine IsTop.eq ⟨h1, fun a ha b hb => ?_, h3⟩
  obtain ⟨x, hx⟩ := List.mem_iff_getElem?.1 ha
  obtain ⟨y, hy⟩ := List.mem_iff_getElem?.1 hb
  exact h2 x y a b hx hy (.inl ⟨(List.getElem?_eq_some_iff.1 hx).1, (List.getElem?_eq_some_iff.1 hy).1⟩)
end Go.Proofs.Ytjiaemmhjkhdhaa.Ru

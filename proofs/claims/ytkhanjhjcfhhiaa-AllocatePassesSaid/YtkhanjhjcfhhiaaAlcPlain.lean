/- Plain definitions of what package allocate computes: Check, Load, Worst. No condition. -/
namespace Go.Proofs.Ytkhanjhjcfhhiaa

/-- a cell of a table -/
structure Cl where
  s : Int
  o : Int
  k : Int
  b : Bool
  p : Int
  f : Int
  deriving DecidableEq, Inhabited
/-- a usage of a cell -/
structure Us where
  c : Cl
  pa : Int
  us : Int
  wo : Int
  deriving DecidableEq, Inhabited

/-- the first index below n at which p holds, or n -/
def fst (p : Nat → Bool) : Nat → Nat
  | 0 => 0
  | n + 1 => if fst p n < n then fst p n else if p n then n else n + 1

theorem fst_miss {p : Nat → Bool} : ∀ {n : Nat}, (∀ j, j < n → p j = false) → fst p n = n
  | 0, _ => rfl
  | n + 1, h => by
    unfold fst
    rw [fst_miss (n := n) (fun j hj => h j (by omega)), if_neg (Nat.lt_irrefl n), h n (by omega)]
    rfl
theorem fst_hit {p : Nat → Bool} {k : Nat} (h : ∀ j, j < k → p j = false) (hk : p k = true) : ∀ d, fst p (k + 1 + d) = k
  | 0 => by
    show fst p (k + 1) = k
    unfold fst
    rw [fst_miss h, if_neg (Nat.lt_irrefl k), hk]
    rfl
  | d + 1 => by
    show fst p (k + 1 + d + 1) = k
    unfold fst
    rw [fst_hit h hk d, if_pos (by omega)]
theorem fst_hit' {p : Nat → Bool} {k n : Nat} (h : ∀ j, j < k → p j = false) (hk : p k = true) (hn : k < n) : fst p n = k := by
  have := fst_hit h hk (n - (k + 1))
  rwa [show k + 1 + (n - (k + 1)) = n by omega] at this
theorem fst_le_of {p : Nat → Bool} {j : Nat} (h : p j = true) : ∀ {n : Nat}, j < n → fst p n < n
  | 0, hj => absurd hj (Nat.not_lt_zero _)
  | n + 1, hj => by
    unfold fst
    by_cases c : fst p n < n
    · rw [if_pos c]; omega
    · rw [if_neg c]
      by_cases e : j = n
      · subst e; rw [if_pos h]; omega
      · exact absurd (fst_le_of h (by omega)) c
theorem fst_lt {p : Nat → Bool} : ∀ {n : Nat}, fst p n < n → p (fst p n) = true ∧ ∀ j, j < fst p n → p j = false
  | 0, h => absurd h (Nat.not_lt_zero _)
  | n + 1, h => by
    unfold fst at h ⊢
    by_cases c : fst p n < n
    · simp only [if_pos c]
      exact fst_lt c
    · simp only [if_neg c] at h ⊢
      by_cases d : p n = true
      · simp only [d, if_true]
        refine ⟨trivial, fun j hj => ?_⟩
        apply Classical.byContradiction
        intro hp
        have hp2 : p j = true := by simpa using hp
        exact absurd (fst_le_of hp2 hj) c
      · simp only [d] at h
        simp at h
theorem fst_all {p : Nat → Bool} {n : Nat} (h : ¬ fst p n < n) (j : Nat) (hj : j < n) : p j = false := by
  cases hp : p j with
  | false => rfl
  | true => exact absurd (fst_le_of hp hj) h

namespace Al
/-- what kind of cell it must be -/
def okA (p0 : Int) (c : Cl) : Prop := c.k = 2 ∧ c.b = true ∧ c.f = -1 ∧ (0 ≤ c.p ∧ c.p ≤ 31) ∧ c.p = p0
instance (p0 : Int) (c : Cl) : Decidable (okA p0 c) := by unfold okA; infer_instance
/-- the numbers are in range -/
def okN (x : Us) : Prop := (0 ≤ x.c.s ∧ x.c.s ≤ 511) ∧ (0 ≤ x.c.o ∧ x.c.o ≤ 15) ∧ (0 ≤ x.pa ∧ x.pa ≤ 64) ∧ (0 ≤ x.us ∧ x.us ≤ x.pa) ∧ (0 ≤ x.wo ∧ x.wo ≤ x.us)
instance (x : Us) : Decidable (okN x) := by unfold okN; infer_instance
/-- the usage at an index -/
def at_ (l : List Us) (j : Nat) : Us := l.getD j default
def badE (l : List Us) (j : Nat) : Int :=
  if okA (at_ l 0).c.p (at_ l j).c then (if okN (at_ l j) then (if 0 < j ∧ (at_ l j).c.s ≤ (at_ l (j - 1)).c.s then 5 else 0) else 2) else 1
def badB (l : List Us) (j : Nat) : Bool := badE l j != 0
def chk (l : List Us) : Int := if l.length ≤ 64 then (if fst (badB l) l.length < l.length then badE l (fst (badB l) l.length) else 0) else 8

theorem at_eq {l : List Us} {j : Nat} {x : Us} (h : l[j]? = some x) : at_ l j = x := by unfold at_; rw [List.getD_eq_getElem?_getD, h]; rfl
theorem bad_arg {l : List Us} {j : Nat} (h : ¬ okA (at_ l 0).c.p (at_ l j).c) : badE l j = 1 := if_neg h
theorem bad_rng {l : List Us} {j : Nat} (h : okA (at_ l 0).c.p (at_ l j).c) (h2 : ¬ okN (at_ l j)) : badE l j = 2 := by unfold badE; rw [if_pos h, if_neg h2]
theorem bad_ord {l : List Us} {j : Nat} (h : okA (at_ l 0).c.p (at_ l j).c) (h2 : okN (at_ l j)) (h3 : 0 < j ∧ (at_ l j).c.s ≤ (at_ l (j - 1)).c.s) : badE l j = 5 := by unfold badE; rw [if_pos h, if_pos h2, if_pos h3]
theorem bad_no {l : List Us} {j : Nat} (h : okA (at_ l 0).c.p (at_ l j).c) (h2 : okN (at_ l j)) (h3 : ¬ (0 < j ∧ (at_ l j).c.s ≤ (at_ l (j - 1)).c.s)) : badE l j = 0 := by unfold badE; rw [if_pos h, if_pos h2, if_neg h3]
theorem bad_inv {l : List Us} {j : Nat} (h : badE l j = 0) : okA (at_ l 0).c.p (at_ l j).c ∧ okN (at_ l j) ∧ ¬ (0 < j ∧ (at_ l j).c.s ≤ (at_ l (j - 1)).c.s) := by
  unfold badE at h
  split at h
  · split at h
    · split at h
      · exact absurd h (by decide)
      · exact ⟨by assumption, by assumption, by assumption⟩
    · exact absurd h (by decide)
  · exact absurd h (by decide)
theorem chk_big {l : List Us} (h : ¬ l.length ≤ 64) : chk l = 8 := if_neg h
theorem chk_hit {l : List Us} {k : Nat} {e : Int} (hl : l.length ≤ 64) (h : ∀ j, j < k → badE l j = 0) (hk : badE l k = e) (he : e ≠ 0) (hn : k < l.length) : chk l = e := by
  have hf : fst (badB l) l.length = k := fst_hit' (fun j hj => by unfold badB; rw [h j hj]; rfl) (by unfold badB; rw [hk]; simpa using he) hn
  unfold chk; rw [if_pos hl, hf, if_pos hn, hk]
theorem chk_miss {l : List Us} (hl : l.length ≤ 64) (h : ∀ j, j < l.length → badE l j = 0) : chk l = 0 := by
  have hf : fst (badB l) l.length = l.length := fst_miss (fun j hj => by unfold badB; rw [h j hj]; rfl)
  unfold chk; rw [if_pos hl, hf, if_neg (Nat.lt_irrefl _)]
theorem chk_inv {l : List Us} (h : chk l = 0) : l.length ≤ 64 ∧ ∀ j, j < l.length → badE l j = 0 := by
  unfold chk at h
  split at h
  · rename_i hl
    refine ⟨hl, fun j hj => ?_⟩
    split at h
    · rename_i hlt
      have hb : (badE l (fst (badB l) l.length) != 0) = true := (fst_lt hlt).1
      rw [h] at hb
      exact absurd hb (by decide)
    · rename_i hlt
      have := fst_all hlt j hj
      unfold badB at this
      simpa using this
  · exact absurd h (by decide)
theorem chk_cases (l : List Us) : chk l = 0 ∨ (chk l != 0) = true := by
  by_cases h : chk l = 0
  · exact .inl h
  · exact .inr (by simpa using h)
theorem chk_of {l : List Us} (hl : l.length ≤ 64) (h : ∀ j, j < l.length → okA (at_ l 0).c.p (at_ l j).c ∧ okN (at_ l j)) (hs : ∀ j, 0 < j → j < l.length → (at_ l (j - 1)).c.s < (at_ l j).c.s) : chk l = 0 :=
  chk_miss hl fun j hj => bad_no (h j hj).1 (h j hj).2 (fun h0 => by have := hs j h0.1 hj; omega)
/-- in a good list: the numbers of each usage -/
theorem chk_num {l : List Us} {j : Nat} {x : Us} (h : chk l = 0) (hx : l[j]? = some x) : okN x := by
  have hj := (List.getElem?_eq_some_iff.1 hx).1
  have := (bad_inv ((chk_inv h).2 j hj)).2.1
  rwa [at_eq hx] at this
/-- in a good list the slots rise -/
theorem chk_rise {l : List Us} (h : chk l = 0) (i : Nat) : ∀ d, i + d + 1 < l.length → (at_ l i).c.s < (at_ l (i + d + 1)).c.s
  | 0, hj => by
    have := (bad_inv ((chk_inv h).2 (i + 0 + 1) hj)).2.2
    have e : i + 0 + 1 - 1 = i := by omega
    rw [e] at this
    omega
  | d + 1, hj => by
    have h1 := chk_rise h i d (by omega)
    have := (bad_inv ((chk_inv h).2 (i + (d + 1) + 1) hj)).2.2
    have e : i + (d + 1) + 1 - 1 = i + d + 1 := by omega
    rw [e] at this
    omega
theorem chk_lt {l : List Us} (h : chk l = 0) {i j : Nat} (hij : i < j) (hj : j < l.length) : (at_ l i).c.s < (at_ l j).c.s := by
  have := chk_rise h i (j - i - 1) (by omega)
  rwa [show i + (j - i - 1) + 1 = j by omega] at this
theorem chk_inj {l : List Us} (h : chk l = 0) {i j : Nat} {x y : Us} (hx : l[i]? = some x) (hy : l[j]? = some y) (e : x.c.s = y.c.s) : i = j := by
  have hi := (List.getElem?_eq_some_iff.1 hx).1
  have hj := (List.getElem?_eq_some_iff.1 hy).1
  rcases Nat.lt_trichotomy i j with c | c | c
  · have := chk_lt h c hj
    rw [at_eq hx, at_eq hy] at this
    omega
  · exact c
  · have := chk_lt h c hi
    rw [at_eq hx, at_eq hy] at this
    omega

/-- the sums -/
def sU : List Us → Int
  | [] => 0
  | x :: l => x.us + sU l
def sP : List Us → Int
  | [] => 0
  | x :: l => x.pa + sP l
theorem sU_app : ∀ (l m : List Us), sU (l ++ m) = sU l + sU m
  | [], m => by simp [sU]
  | x :: l, m => by simp only [List.cons_append, sU, sU_app l m]; omega
theorem sP_app : ∀ (l m : List Us), sP (l ++ m) = sP l + sP m
  | [], m => by simp [sP]
  | x :: l, m => by simp only [List.cons_append, sP, sP_app l m]; omega
theorem take_snoc {α : Type} {l : List α} {k : Nat} {x : α} (h : l[k]? = some x) : l.take (k + 1) = l.take k ++ [x] := by
  rw [List.take_add_one, h]; rfl
theorem sU_take {l : List Us} {k : Nat} {x : Us} (h : l[k]? = some x) : sU (l.take (k + 1)) = sU (l.take k) + x.us := by
  rw [take_snoc h, sU_app]; simp [sU]
theorem sP_take {l : List Us} {k : Nat} {x : Us} (h : l[k]? = some x) : sP (l.take (k + 1)) = sP (l.take k) + x.pa := by
  rw [take_snoc h, sP_app]; simp [sP]
theorem s_bd {l : List Us} (h : ∀ (j : Nat) x, l[j]? = some x → okN x) : ∀ k, (0 ≤ sU (l.take k) ∧ sU (l.take k) ≤ 64 * k) ∧ (0 ≤ sP (l.take k) ∧ sP (l.take k) ≤ 64 * k) ∧ sU (l.take k) ≤ sP (l.take k)
  | 0 => by simp [sU, sP]
  | k + 1 => by
    have ih := s_bd h k
    cases hx : l[k]? with
    | none =>
      have hl : l.length ≤ k := by
        apply Classical.byContradiction
        intro hn
        rw [List.getElem?_eq_getElem (by omega)] at hx
        cases hx
      rw [List.take_of_length_le (by omega)] at ih ⊢
      omega
    | some x =>
      have := h k x hx
      unfold okN at this
      rw [sU_take hx, sP_take hx]
      omega
def ldU (l : List Us) : Int := if chk l = 0 then sU l else 0
def ldP (l : List Us) : Int := if chk l = 0 then sP l else 0

/-- a has a lesser fraction than b -/
def ls (a b : Us) : Bool := decide (a.wo * b.us < b.wo * a.us)
def ls2 (a b : Us) : Bool := decide (2 * a.wo * b.us < b.wo * a.us)
/-- the worst and the best cell of the first ones -/
def wb (l : List Us) : Nat → Option (Nat × Nat)
  | 0 => none
  | k + 1 =>
    if 8 ≤ (at_ l k).us then
      match wb l k with
      | none => some (k, k)
      | some (a, b) => some (if ls (at_ l k) (at_ l a) then k else a, if ls (at_ l b) (at_ l k) then k else b)
    else wb l k
theorem wb_few {l : List Us} {k : Nat} (h : ¬ 8 ≤ (at_ l k).us) : wb l (k + 1) = wb l k := if_neg h
theorem wb_one {l : List Us} {k : Nat} (h : 8 ≤ (at_ l k).us) (hw : wb l k = none) : wb l (k + 1) = some (k, k) := by
  show (if 8 ≤ (at_ l k).us then _ else _) = _
  rw [if_pos h, hw]
theorem wb_more {l : List Us} {k a b : Nat} (h : 8 ≤ (at_ l k).us) (hw : wb l k = some (a, b)) : wb l (k + 1) = some (if ls (at_ l k) (at_ l a) then k else a, if ls (at_ l b) (at_ l k) then k else b) := by
  show (if 8 ≤ (at_ l k).us then _ else _) = _
  rw [if_pos h, hw]
theorem wb_lt {l : List Us} : ∀ {k a b : Nat}, wb l k = some (a, b) → a < k ∧ b < k
  | 0, _, _, h => by simp [wb] at h
  | k + 1, a, b, h => by
    by_cases c : 8 ≤ (at_ l k).us
    · cases hw : wb l k with
      | none =>
        rw [wb_one c hw] at h
        simp only [Option.some.injEq, Prod.mk.injEq] at h
        omega
      | some q =>
        obtain ⟨a', b'⟩ := q
        rw [wb_more c hw] at h
        simp only [Option.some.injEq, Prod.mk.injEq] at h
        have := wb_lt hw
        obtain ⟨h1, h2⟩ := h
        split at h1 <;> split at h2 <;> omega
    · rw [wb_few c] at h
      have := wb_lt h
      omega
def worN (l : List Us) : Int := if chk l = 0 then (match wb l l.length with | none => 0 | some (a, b) => if ls2 (at_ l a) (at_ l b) then (a : Int) else 0) else 0
def worB (l : List Us) : Bool := if chk l = 0 then (match wb l l.length with | none => false | some (a, b) => ls2 (at_ l a) (at_ l b)) else false
theorem wor_no {l : List Us} (h : ¬ chk l = 0) : worN l = 0 ∧ worB l = false := ⟨if_neg h, if_neg h⟩
theorem wor_none {l : List Us} (h : chk l = 0) (hw : wb l l.length = none) : worN l = 0 ∧ worB l = false := by
  constructor
  · unfold worN; rw [if_pos h, hw]
  · unfold worB; rw [if_pos h, hw]
theorem wor_some {l : List Us} {a b : Nat} (h : chk l = 0) (hw : wb l l.length = some (a, b)) : worN l = (if ls2 (at_ l a) (at_ l b) then (a : Int) else 0) ∧ worB l = ls2 (at_ l a) (at_ l b) := by
  constructor
  · unfold worN; rw [if_pos h, hw]
  · unfold worB; rw [if_pos h, hw]
end Al
end Go.Proofs.Ytkhanjhjcfhhiaa

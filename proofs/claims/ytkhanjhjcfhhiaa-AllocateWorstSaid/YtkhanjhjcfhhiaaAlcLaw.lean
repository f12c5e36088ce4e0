/- Plain laws of the worst cell, of passes, of steady demands. No condition. -/
import Derived.Test.YtkhanjhjcfhhiaaAlcLst
import Derived.Test.YtkhanjhjcfhhiaaAlcDec
namespace Go.Proofs.Ytkhanjhjcfhhiaa
namespace Al
theorem fr_trans {a b c : Us} (hb : 0 < b.us) (ha : 0 ≤ a.us) (hc : 0 ≤ c.us) (h1 : a.wo * b.us ≤ b.wo * a.us) (h2 : b.wo * c.us ≤ c.wo * b.us) : a.wo * c.us ≤ c.wo * a.us := by
  have e1 := Int.mul_le_mul_of_nonneg_right h1 hc
  have e2 := Int.mul_le_mul_of_nonneg_right h2 ha
  have e3 : b.wo * a.us * c.us = b.wo * c.us * a.us := by rw [Int.mul_assoc, Int.mul_comm a.us, ← Int.mul_assoc]
  have e4 : a.wo * b.us * c.us = (a.wo * c.us) * b.us := by rw [Int.mul_assoc, Int.mul_comm b.us, ← Int.mul_assoc]
  have e5 : c.wo * b.us * a.us = (c.wo * a.us) * b.us := by rw [Int.mul_assoc, Int.mul_comm b.us, ← Int.mul_assoc]
  have e6 : (a.wo * c.us) * b.us ≤ (c.wo * a.us) * b.us := by omega
  exact Int.le_of_mul_le_mul_right e6 hb
theorem ls_no {a b : Us} (h : ls a b = false) : b.wo * a.us ≤ a.wo * b.us := by
  unfold ls at h
  have := of_decide_eq_false h
  omega
theorem ls_yes {a b : Us} (h : ls a b = true) : a.wo * b.us < b.wo * a.us := of_decide_eq_true h
/-- what the loop of Worst keeps -/
structure WB (l : List Us) (k a b : Nat) : Prop where
  ha : a < k
  hb : b < k
  ta : 8 ≤ (at_ l a).us
  tb : 8 ≤ (at_ l b).us
  lo : ∀ j, j < k → 8 ≤ (at_ l j).us → (at_ l a).wo * (at_ l j).us ≤ (at_ l j).wo * (at_ l a).us
  hi : ∀ j, j < k → 8 ≤ (at_ l j).us → (at_ l j).wo * (at_ l b).us ≤ (at_ l b).wo * (at_ l j).us
  fi : ∀ j, j < a → 8 ≤ (at_ l j).us → (at_ l a).wo * (at_ l j).us < (at_ l j).wo * (at_ l a).us
theorem fr_lt {a b c : Us} (hb : 0 < b.us) (ha : 0 < a.us) (h1 : a.wo * b.us < b.wo * a.us) (h2 : b.wo * c.us ≤ c.wo * b.us) (hc0 : 0 < c.us) : a.wo * c.us < c.wo * a.us := by
  apply Classical.byContradiction
  intro hn
  have h3 : c.wo * a.us ≤ a.wo * c.us := by omega
  have := fr_trans (a := b) (b := c) (c := a) hc0 (by omega) (by omega) h2 h3
  omega
theorem wb_inv (l : List Us) : ∀ k, match wb l k with | none => ∀ j, j < k → ¬ 8 ≤ (at_ l j).us | some (a, b) => WB l k a b
  | 0 => fun j hj => absurd hj (Nat.not_lt_zero _)
  | k + 1 => by
    have ih := wb_inv l k
    by_cases c : 8 ≤ (at_ l k).us
    · cases hw : wb l k with
      | none =>
        rw [hw] at ih
        rw [wb_one c hw]
        have no : ∀ j, j < k + 1 → 8 ≤ (at_ l j).us → j = k := fun j hj h8 => by
          apply Classical.byContradiction; intro e; exact ih j (by omega) h8
        exact ⟨by omega, by omega, c, c, fun j hj h8 => by rw [no j hj h8]; exact Int.le_refl _, fun j hj h8 => by rw [no j hj h8]; exact Int.le_refl _, fun j hj h8 => absurd h8 (ih j hj)⟩
      | some q =>
        obtain ⟨a, b⟩ := q
        rw [hw] at ih
        rw [wb_more c hw]
        obtain ⟨ha, hb, ta, tb, lo, hi, fi⟩ := ih
        have LO : ∀ j, j < k + 1 → 8 ≤ (at_ l j).us → (at_ l (if ls (at_ l k) (at_ l a) then k else a)).wo * (at_ l j).us ≤ (at_ l j).wo * (at_ l (if ls (at_ l k) (at_ l a) then k else a)).us := by
          intro j hj h8
          cases hq : ls (at_ l k) (at_ l a) with
          | true =>
            simp only [if_true]
            by_cases e : j = k
            · subst e; exact Int.le_refl _
            · have := ls_yes hq
              exact fr_trans (b := at_ l a) (by omega) (by omega) (by omega) (by omega) (lo j (by omega) h8)
          | false =>
            simp only [Bool.false_eq_true, if_false]
            by_cases e : j = k
            · subst e; exact ls_no hq
            · exact lo j (by omega) h8
        have HI : ∀ j, j < k + 1 → 8 ≤ (at_ l j).us → (at_ l j).wo * (at_ l (if ls (at_ l b) (at_ l k) then k else b)).us ≤ (at_ l (if ls (at_ l b) (at_ l k) then k else b)).wo * (at_ l j).us := by
          intro j hj h8
          cases hq : ls (at_ l b) (at_ l k) with
          | true =>
            simp only [if_true]
            by_cases e : j = k
            · subst e; exact Int.le_refl _
            · have := ls_yes hq
              exact fr_trans (b := at_ l b) (by omega) (by omega) (by omega) (hi j (by omega) h8) (by omega)
          | false =>
            simp only [Bool.false_eq_true, if_false]
            by_cases e : j = k
            · subst e; exact ls_no hq
            · exact hi j (by omega) h8
        have FI : ∀ j, j < (if ls (at_ l k) (at_ l a) then k else a) → 8 ≤ (at_ l j).us → (at_ l (if ls (at_ l k) (at_ l a) then k else a)).wo * (at_ l j).us < (at_ l j).wo * (at_ l (if ls (at_ l k) (at_ l a) then k else a)).us := by
          intro j hj h8
          cases hq : ls (at_ l k) (at_ l a) with
          | true =>
            rw [hq] at hj
            simp only [if_true] at hj ⊢
            exact fr_lt (b := at_ l a) (by omega) (by omega) (ls_yes hq) (lo j (by omega) h8) (by omega)
          | false =>
            rw [hq] at hj
            simp only [Bool.false_eq_true, if_false] at hj ⊢
            exact fi j hj h8
        refine ⟨?_, ?_, ?_, ?_, LO, HI, FI⟩ <;> (split <;> first | assumption | omega)
    · rw [wb_few c]
      cases hw : wb l k with
      | none =>
        rw [hw] at ih
        intro j hj
        by_cases e : j = k
        · subst e; exact c
        · exact ih j (by omega)
      | some q =>
        obtain ⟨a, b⟩ := q
        rw [hw] at ih
        obtain ⟨ha, hb, ta, tb, lo, hi, fi⟩ := ih
        exact ⟨by omega, by omega, ta, tb, fun j hj h8 => by
          by_cases e : j = k
          · subst e; exact absurd h8 c
          · exact lo j (by omega) h8, fun j hj h8 => by
          by_cases e : j = k
          · subst e; exact absurd h8 c
          · exact hi j (by omega) h8, fi⟩
/-- b is tried, and has more than t times the fraction of a -/
def more (a b : Us) (t : Int) : Bool := decide (8 ≤ b.us ∧ t * a.wo * b.us < b.wo * a.us)
theorem cross {a b x y : Us} (ha : 0 < a.us) (hb : 0 < b.us) (hx : 0 < x.us) (hy : 0 < y.us)
    (h1 : a.wo * x.us ≤ x.wo * a.us) (h2 : y.wo * b.us ≤ b.wo * y.us) (h3 : b.wo * a.us ≤ 2 * a.wo * b.us) : y.wo * x.us ≤ 2 * x.wo * y.us := by
  have hab : 0 < a.us * b.us := Int.mul_pos ha hb
  have e1 : (y.wo * x.us) * (a.us * b.us) = (y.wo * b.us) * (x.us * a.us) := by
    rw [Int.mul_comm a.us b.us, Int.mul_assoc, ← Int.mul_assoc x.us, Int.mul_comm x.us b.us, Int.mul_assoc b.us, ← Int.mul_assoc]
  have e2 := Int.mul_le_mul_of_nonneg_right h2 (Int.le_of_lt (Int.mul_pos hx ha))
  have e3 : (b.wo * y.us) * (x.us * a.us) = (b.wo * a.us) * (x.us * y.us) := by
    rw [Int.mul_assoc, Int.mul_assoc, Int.mul_comm x.us a.us, ← Int.mul_assoc y.us, Int.mul_comm y.us a.us, Int.mul_assoc a.us, Int.mul_comm y.us x.us]
  have e4 := Int.mul_le_mul_of_nonneg_right h3 (Int.le_of_lt (Int.mul_pos hx hy))
  have e5 : (2 * a.wo * b.us) * (x.us * y.us) = (a.wo * x.us) * (2 * (b.us * y.us)) := by
    rw [Int.mul_comm 2 a.wo, Int.mul_assoc a.wo, Int.mul_assoc a.wo, Int.mul_assoc a.wo]
    congr 1
    rw [Int.mul_assoc, ← Int.mul_assoc b.us, Int.mul_comm b.us x.us, Int.mul_assoc x.us, ← Int.mul_assoc, Int.mul_comm 2 x.us, Int.mul_assoc]
  have e6 := Int.mul_le_mul_of_nonneg_right h1 (Int.le_of_lt (Int.mul_pos (by decide : (0 : Int) < 2) (Int.mul_pos hb hy)))
  have e7 : (x.wo * a.us) * (2 * (b.us * y.us)) = (2 * x.wo * y.us) * (a.us * b.us) := by
    rw [Int.mul_comm 2 x.wo, Int.mul_assoc x.wo, Int.mul_assoc x.wo, Int.mul_assoc x.wo]
    congr 1
    rw [← Int.mul_assoc, Int.mul_comm a.us 2, Int.mul_assoc, Int.mul_assoc]
    congr 1
    rw [Int.mul_comm b.us y.us, ← Int.mul_assoc, Int.mul_comm a.us y.us, Int.mul_assoc]
  refine Int.le_of_mul_le_mul_right (a := a.us * b.us) ?_ hab
  omega
theorem at_mem {l : List Us} {x : Us} (h : x ∈ l) : ∃ j, j < l.length ∧ at_ l j = x := by
  obtain ⟨j, hj, rfl⟩ := List.getElem_of_mem h
  exact ⟨j, hj, at_eq (List.getElem?_eq_getElem hj)⟩
theorem worst_no {l : List Us} (h : chk l = 0) (hb : worB l = false) : l.any (fun a => decide (8 ≤ a.us) && l.any (fun b => more a b 2)) = false := by
  have I := wb_inv l l.length
  rw [List.any_eq_false]
  intro x hx hq
  simp only [Bool.and_eq_true, decide_eq_true_eq, List.any_eq_true] at hq
  obtain ⟨h8, y, hy, hm⟩ := hq
  unfold more at hm
  simp only [decide_eq_true_eq] at hm
  obtain ⟨i, hi, rfl⟩ := at_mem hx
  obtain ⟨j, hj, rfl⟩ := at_mem hy
  cases hw : wb l l.length with
  | none => rw [hw] at I; exact I i hi h8
  | some q =>
    obtain ⟨a, b⟩ := q
    rw [hw] at I
    rw [(wor_some h hw).2] at hb
    unfold ls2 at hb
    have hb2 := of_decide_eq_false hb
    obtain ⟨_, _, ta, tb, lo, hi', _⟩ := I
    have := cross (a := at_ l a) (b := at_ l b) (x := at_ l i) (y := at_ l j) (by omega) (by omega) (by omega) (by omega) (lo i hi h8) (hi' j hj hm.1) (by omega)
    omega
theorem worst_yes {l : List Us} (h : chk l = 0) (hb : worB l = true) : ∃ k : Nat, worN l = k ∧ k < l.length ∧ 8 ≤ (at_ l k).us ∧
    (∀ j, j < l.length → 8 ≤ (at_ l j).us → more (at_ l j) (at_ l k) 1 = false ∧ (j < k → more (at_ l k) (at_ l j) 1 = true)) ∧ l.any (fun b => more (at_ l k) b 2) = true := by
  have I := wb_inv l l.length
  cases hw : wb l l.length with
  | none => rw [(wor_none h hw).2] at hb; exact absurd hb (by decide)
  | some q =>
    obtain ⟨a, b⟩ := q
    rw [hw] at I
    have hn := (wor_some h hw).1
    rw [(wor_some h hw).2] at hb
    rw [hb] at hn
    obtain ⟨ha, hb', ta, tb, lo, hi', fi⟩ := I
    refine ⟨a, hn, ha, ta, fun j hj h8 => ⟨?_, fun hlt => ?_⟩, ?_⟩
    · unfold more
      have := lo j hj h8
      simp only [Int.one_mul]
      exact decide_eq_false (fun hx => by omega)
    · unfold more
      have := fi j hlt h8
      simp only [Int.one_mul]
      exact decide_eq_true ⟨h8, by omega⟩
    · rw [List.any_eq_true]
      refine ⟨at_ l b, ?_, ?_⟩
      · unfold at_
        rw [List.getD_eq_getElem?_getD, List.getElem?_eq_getElem hb']
        exact List.getElem_mem hb'
      · unfold more
        unfold ls2 at hb
        exact decide_eq_true ⟨tb, of_decide_eq_true hb⟩

/-- a pass keeps the list good -/
theorem bump_okN {x : Us} {u w : Bool} (h : okN x) (hw : (w && !u) = false) : okN (bump x u w) ∧ (bump x u w).c = x.c := by
  have hc : (bump x u w).c = x.c := by unfold bump; split <;> rfl
  refine ⟨?_, hc⟩
  unfold okN at h ⊢
  rw [hc]
  unfold bump
  cases u <;> cases w <;> simp at hw <;> (by_cases e : x.pa = 64 <;> simp only [e, if_true, if_false] <;> simp <;> omega)
theorem at_set {l : List Us} {k j : Nat} {y : Us} (hk : k < l.length) : at_ (l.set k y) j = if j = k then y else at_ l j := by
  unfold at_
  rw [List.getD_eq_getElem?_getD, List.getD_eq_getElem?_getD, List.getElem?_set]
  by_cases e : k = j
  · subst e; simp [hk]
  · rw [if_neg e, if_neg (fun h => e h.symm)]
theorem set_chk {l : List Us} {k : Nat} {y : Us} (h : chk l = 0) (hk : k < l.length) (hc : y.c = (at_ l k).c) (hn : okN y) : chk (l.set k y) = 0 := by
  obtain ⟨hl, hb⟩ := chk_inv h
  have cc : ∀ j, (at_ (l.set k y) j).c = (at_ l j).c := fun j => by
    rw [at_set hk]
    split
    · rename_i e; subst e; exact hc
    · rfl
  refine chk_miss (by rw [List.length_set]; exact hl) fun j hj => ?_
  rw [List.length_set] at hj
  obtain ⟨h1, h2, h3⟩ := bad_inv (hb j hj)
  refine bad_no ?_ ?_ ?_
  · rw [cc, cc]; exact h1
  · rw [at_set hk]
    split
    · exact hn
    · exact h2
  · rw [cc, cc]; exact h3
end Al
end Go.Proofs.Ytkhanjhjcfhhiaa

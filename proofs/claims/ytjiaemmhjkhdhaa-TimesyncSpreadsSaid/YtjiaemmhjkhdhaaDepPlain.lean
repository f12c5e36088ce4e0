/- Plain laws of the depths of a tree given by parents. No condition. -/
namespace Go.Proofs.Ytjiaemmhjkhdhaa.Dp

/-- the parent that stands at a place -/
def par (p : List Int) (a : Nat) : Int := p.getD a 0
/-- the depth of a node, looked for in at most so many steps -/
def dep (p : List Int) : Nat → Nat → Option Nat
  | 0, _ => none
  | k + 1, a => if a = 0 then some 0 else if par p a < 0 ∨ (p.length : Int) ≤ par p a then none else (dep p k (par p a).toNat).map (· + 1)

theorem dep_zero (p : List Int) (k : Nat) : dep p (k + 1) 0 = some 0 := by unfold dep; rw [if_pos rfl]
theorem dep_bad {p : List Int} {k a : Nat} (h : a ≠ 0) (hb : par p a < 0 ∨ (p.length : Int) ≤ par p a) : dep p k a = none := by
  cases k with
  | zero => rfl
  | succ k => unfold dep; rw [if_neg h, if_pos hb]
theorem dep_step {p : List Int} {k a : Nat} (h : a ≠ 0) (h0 : 0 ≤ par p a) (h1 : par p a < (p.length : Int)) : dep p (k + 1) a = (dep p k (par p a).toNat).map (· + 1) := by
  show (if a = 0 then some 0 else if par p a < 0 ∨ (p.length : Int) ≤ par p a then none else (dep p k (par p a).toNat).map (· + 1)) = _
  rw [if_neg h, if_neg (by omega)]

theorem dep_mono {p : List Int} : ∀ (k a d e : Nat), dep p k a = some d → dep p (k + e) a = some d
  | 0, a, d, e, h => by simp [dep] at h
  | k + 1, a, d, e, h => by
    rw [show k + 1 + e = (k + e) + 1 by omega]
    by_cases ha : a = 0
    · subst ha; rw [dep_zero] at h ⊢; exact h
    · by_cases hb : par p a < 0 ∨ (p.length : Int) ≤ par p a
      · rw [dep_bad ha hb] at h; cases h
      · rw [dep_step ha (by omega) (by omega)] at h ⊢
        rw [Option.map_eq_some_iff] at h ⊢
        obtain ⟨c, h1, h2⟩ := h
        exact ⟨c, dep_mono k _ c e h1, h2⟩
theorem dep_le {p : List Int} {k j a d : Nat} (h : dep p k a = some d) (hj : k ≤ j) : dep p j a = some d := by
  have := dep_mono k a d (j - k) h
  rwa [show k + (j - k) = j by omega] at this
theorem dep_det {p : List Int} {k j a d e : Nat} (h : dep p k a = some d) (h' : dep p j a = some e) : d = e := by
  have h1 := dep_le h (Nat.le_max_left k j)
  have h2 := dep_le h' (Nat.le_max_right k j)
  rw [h1] at h2
  exact Option.some.inj h2
theorem dep_fuel {p : List Int} : ∀ (k a d : Nat), dep p k a = some d → d < k ∧ dep p (d + 1) a = some d
  | 0, a, d, h => by simp [dep] at h
  | k + 1, a, d, h => by
    by_cases ha : a = 0
    · subst ha
      rw [dep_zero] at h
      cases h
      exact ⟨by omega, dep_zero p 0⟩
    · by_cases hb : par p a < 0 ∨ (p.length : Int) ≤ par p a
      · rw [dep_bad ha hb] at h; cases h
      · rw [dep_step ha (by omega) (by omega)] at h
        rw [Option.map_eq_some_iff] at h
        obtain ⟨c, h1, rfl⟩ := h
        obtain ⟨i1, i2⟩ := dep_fuel k _ c h1
        exact ⟨by omega, by rw [dep_step ha (by omega) (by omega), i2]; rfl⟩

/-- so many things that part go into no fewer places -/
theorem pigeon : ∀ (n d : Nat) (g : Nat → Nat), (∀ j, j ≤ d → g j < n) → (∀ i j, i ≤ d → j ≤ d → g i = g j → i = j) → d < n
  | 0, d, g, h, _ => absurd (h 0 (Nat.zero_le _)) (Nat.not_lt_zero _)
  | n + 1, d, g, h, hi => by
    by_cases hx : ∃ j, j ≤ d ∧ g j = n
    · obtain ⟨j0, hj0, he⟩ := hx
      cases d with
      | zero => omega
      | succ d =>
        have := pigeon n d (fun j => if j < j0 then g j else g (j + 1)) (fun j hj => by
          show (if j < j0 then g j else g (j + 1)) < n
          split
          · have h1 := h j (by omega)
            by_cases e : g j = n
            · have := hi j j0 (by omega) hj0 (by rw [e, he]); omega
            · omega
          · have h1 := h (j + 1) (by omega)
            by_cases e : g (j + 1) = n
            · have := hi (j + 1) j0 (by omega) hj0 (by rw [e, he]); omega
            · omega) (fun i j hi1 hj1 e => by
          split at e
          · split at e
            · exact hi i j (by omega) (by omega) e
            · have := hi i (j + 1) (by omega) (by omega) e; omega
          · split at e
            · have := hi (i + 1) j (by omega) (by omega) e; omega
            · have := hi (i + 1) (j + 1) (by omega) (by omega) e; omega)
        omega
    · have := pigeon n d g (fun j hj => by
        have h1 := h j hj
        by_cases e : g j = n
        · exact absurd ⟨j, hj, e⟩ hx
        · omega) hi
      omega

/-- a node of each lesser depth lies on the way -/
theorem dep_way {p : List Int} : ∀ (d a : Nat), a < p.length → dep p (d + 1) a = some d → ∀ j, j ≤ d → ∃ b, b < p.length ∧ dep p (j + 1) b = some j
  | 0, a, ha, h, j, hj => ⟨a, ha, by rw [show j = 0 by omega]; exact h⟩
  | d + 1, a, ha, h, j, hj => by
    by_cases e : j = d + 1
    · subst e; exact ⟨a, ha, h⟩
    · by_cases ha0 : a = 0
      · subst ha0; rw [dep_zero] at h; cases h
      · by_cases hb : par p a < 0 ∨ (p.length : Int) ≤ par p a
        · rw [dep_bad ha0 hb] at h; cases h
        · rw [dep_step ha0 (by omega) (by omega)] at h
          rw [Option.map_eq_some_iff] at h
          obtain ⟨c, h1, h2⟩ := h
          have : c = d := by omega
          subst this
          exact dep_way c _ (by omega) h1 j (by omega)

theorem dep_lt {p : List Int} {k a d : Nat} (ha : a < p.length) (h : dep p k a = some d) : d < p.length := by
  have hd := (dep_fuel k a d h).2
  have hw := dep_way d a ha hd
  have : ∃ g : Nat → Nat, ∀ j, j ≤ d → g j < p.length ∧ dep p (j + 1) (g j) = some j := by
    refine ⟨fun j => if hj : j ≤ d then Classical.choose (hw j hj) else 0, fun j hj => ?_⟩
    simp only [dif_pos hj]
    exact Classical.choose_spec (hw j hj)
  obtain ⟨g, hg⟩ := this
  refine pigeon p.length d g (fun j hj => (hg j hj).1) (fun i j hi hj e => ?_)
  have h1 := (hg i hi).2
  have h2 := (hg j hj).2
  rw [e] at h1
  exact dep_det h1 h2
/-- more steps than nodes find nothing more -/
theorem dep_more {p : List Int} {k a : Nat} (ha : a < p.length) (hk : p.length ≤ k) : dep p k a = dep p p.length a := by
  cases h : dep p k a with
  | none =>
    cases h2 : dep p p.length a with
    | none => rfl
    | some d => rw [dep_le h2 hk] at h; cases h
  | some d =>
    have h1 := dep_lt ha h
    rw [dep_le (dep_fuel k a d h).2 (by omega)]

/-- may these be the parents of a tree -/
def okP (p : List Int) : Prop := 1 ≤ p.length ∧ p.length ≤ 32 ∧ par p 0 = -1
instance (p : List Int) : Decidable (okP p) := by unfold okP; infer_instance
def okD (p : List Int) : Prop := okP p ∧ ∀ i, i < p.length → (dep p p.length i).isSome
instance (p : List Int) : Decidable (okD p) := by unfold okD; infer_instance
def dE (p : List Int) : Int := if okD p then 0 else 1
def dN (p : List Int) (i : Nat) : Int := ((dep p p.length i).getD 0 : Nat)
def dL (p : List Int) : List Int := if okD p then (List.range p.length).map (dN p) else []
theorem d_ok {p : List Int} (h : okD p) : dE p = 0 ∧ dL p = (List.range p.length).map (dN p) := ⟨if_pos h, if_pos h⟩
theorem d_no {p : List Int} (h : ¬ okD p) : dE p = 1 ∧ dL p = [] := ⟨if_neg h, if_neg h⟩
theorem d_none {p : List Int} {i : Nat} (hi : i < p.length) (h : dep p p.length i = none) : ¬ okD p := fun k => by
  have := k.2 i hi; rw [h] at this; cases this
theorem dN_some {p : List Int} {i d : Nat} (h : dep p p.length i = some d) : dN p i = (d : Int) := by unfold dN; rw [h]; rfl
theorem dL_len {p : List Int} (h : okD p) : (dL p).length = p.length := by rw [(d_ok h).2]; simp

/-- a node's depth is one more than its parent's -/
theorem d_parent {p : List Int} (h : okD p) {i : Nat} (hi : i + 1 < p.length) : 0 ≤ par p (i + 1) ∧ par p (i + 1) < (p.length : Int) ∧ dN p (i + 1) = dN p (par p (i + 1)).toNat + 1 := by
  have hs := h.2 (i + 1) hi
  obtain ⟨d, hd⟩ := Option.isSome_iff_exists.1 hs
  by_cases hb : par p (i + 1) < 0 ∨ (p.length : Int) ≤ par p (i + 1)
  · rw [dep_bad (by omega) hb] at hd; cases hd
  · refine ⟨by omega, by omega, ?_⟩
    rw [dN_some hd]
    have h2 := hd
    rw [show p.length = (p.length - 1) + 1 by omega, dep_step (by omega) (by omega) (by omega), Option.map_eq_some_iff] at h2
    obtain ⟨c, h3, rfl⟩ := h2
    have h4 := dep_le h3 (show p.length - 1 ≤ p.length by omega)
    rw [dN_some h4]
    push_cast
    rfl
theorem d_zero {p : List Int} (h : okD p) : dN p 0 = 0 := by
  have h1 := h.1.1
  refine dN_some (d := 0) ?_
  rw [show p.length = (p.length - 1) + 1 by omega]
  exact dep_zero _ _
/-- parents that are less than their nodes lead to 0 -/
theorem d_less {p : List Int} (h : okP p) (hl : ∀ i, i + 1 < p.length → 0 ≤ par p (i + 1) ∧ par p (i + 1) ≤ (i : Int)) : okD p := by
  have key : ∀ n i, i < n → i < p.length → ∃ d, dep p (i + 1) i = some d := by
    intro n
    induction n with
    | zero => intro i hi; exact absurd hi (Nat.not_lt_zero _)
    | succ n ih =>
      intro i hi hp
      cases i with
      | zero => exact ⟨0, dep_zero _ _⟩
      | succ i =>
        obtain ⟨h1, h2⟩ := hl i hp
        obtain ⟨d, hd⟩ := ih (par p (i + 1)).toNat (by omega) (by omega)
        refine ⟨d + 1, ?_⟩
        rw [dep_step (by omega) h1 (by omega), dep_le hd (by omega)]
        rfl
  refine ⟨h, fun i hi => ?_⟩
  obtain ⟨d, hd⟩ := key (i + 1) i (by omega) hi
  rw [dep_le hd (by omega)]
  rfl
end Go.Proofs.Ytjiaemmhjkhdhaa.Dp

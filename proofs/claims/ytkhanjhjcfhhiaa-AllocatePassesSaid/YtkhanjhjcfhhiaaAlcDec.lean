/- Plain definitions of allocate's decisions: the rules, Settle. No condition. -/
import Derived.Test.YtkhanjhjcfhhiaaAlcPlain
namespace Go.Proofs.Ytkhanjhjcfhhiaa

/-- what a decision depends on -/
structure Fx where
  n : Int
  bk : Int
  lo : Int
  hi : Int
  us : Int
  pa : Int
  w : Bool
namespace Al
/-- does a rule apply -/
def rp (x : Fx) : Nat → Bool
  | 0 => decide (x.n < x.lo)
  | 1 => decide (x.n = 0 ∧ 0 < x.bk ∧ 0 < x.hi)
  | 2 => decide (x.n = 0)
  | 3 => decide (4 * x.n < x.bk ∧ x.n < x.hi)
  | 4 => decide (x.pa < 8 * x.n)
  | 5 => decide (3 * x.pa ≤ 4 * x.us ∧ x.n < x.hi)
  | 6 => decide (4 * x.us < x.pa ∧ x.lo < x.n ∧ 1 < x.n)
  | 7 => x.w
  | _ => true
def rk : Nat → Int
  | 0 => 1
  | 1 => 1
  | 2 => 0
  | 3 => 1
  | 4 => 0
  | 5 => 1
  | 6 => 2
  | 7 => 3
  | _ => 0
def rc (x : Fx) : Nat → Int
  | 0 => min 8 (x.lo - x.n)
  | 1 => 1
  | 2 => 0
  | 3 => min (min 8 (x.hi - x.n)) ((x.bk - 4 * x.n + 3) / 4)
  | 4 => 0
  | 5 => 1
  | 6 => 1
  | 7 => 1
  | _ => 0
/-- the first rule that applies -/
def ri (x : Fx) : Nat := fst (rp x) 8
theorem ri_lt (x : Fx) : ri x < 9 := by
  have : ∀ (p : Nat → Bool) n, fst p n ≤ n := by
    intro p n
    induction n with
    | zero => exact Nat.le_refl _
    | succ n ih =>
      unfold fst
      split
      · omega
      · split <;> omega
  have := this (rp x) 8
  unfold ri; omega
theorem ri_hit (x : Fx) : rp x (ri x) = true ∧ ∀ j, j < ri x → rp x j = false := by
  unfold ri
  by_cases h : fst (rp x) 8 < 8
  · exact fst_lt h
  · have hl : fst (rp x) 8 < 9 := ri_lt x
    have e : fst (rp x) 8 = 8 := by omega
    rw [e]
    exact ⟨rfl, fun j hj => fst_all h j hj⟩
def dk (x : Fx) : Int := rk (ri x)
def dc (x : Fx) : Int := rc x (ri x)
theorem ri_eq {x : Fx} {k : Nat} (hk : rp x k = true) (h : ∀ j, j < k → rp x j = false) (hk8 : k < 9) : ri x = k := by
  unfold ri
  by_cases e : k = 8
  · subst e; exact fst_miss h
  · exact fst_hit' h hk (by omega)
theorem below0 {p : Nat → Bool} : ∀ j, j < 0 → p j = false := fun _ h => absurd h (Nat.not_lt_zero _)
theorem belowS {p : Nat → Bool} {k : Nat} (h : ∀ j, j < k → p j = false) (hk : p k = false) : ∀ j, j < k + 1 → p j = false := fun j hj => by
  by_cases e : j = k
  · subst e; exact hk
  · exact h j (by omega)
/-- the decision as a chain of tests -/
theorem dec_eq (x : Fx) : (dk x, dc x) =
    if x.n < x.lo then (1, min 8 (x.lo - x.n))
    else if x.n = 0 ∧ 0 < x.bk ∧ 0 < x.hi then (1, 1)
    else if x.n = 0 then (0, 0)
    else if 4 * x.n < x.bk ∧ x.n < x.hi then (1, min (min 8 (x.hi - x.n)) ((x.bk - 4 * x.n + 3) / 4))
    else if x.pa < 8 * x.n then (0, 0)
    else if 3 * x.pa ≤ 4 * x.us ∧ x.n < x.hi then (1, 1)
    else if 4 * x.us < x.pa ∧ x.lo < x.n ∧ 1 < x.n then (2, 1)
    else if x.w = true then (3, 1)
    else (0, 0) := by
  unfold dk dc
  by_cases h0 : x.n < x.lo
  · rw [if_pos h0, ri_eq (k := 0) (decide_eq_true h0) below0 (by decide)]; rfl
  have b1 := belowS (p := rp x) below0 (decide_eq_false h0)
  rw [if_neg h0]
  by_cases h1 : x.n = 0 ∧ 0 < x.bk ∧ 0 < x.hi
  · rw [if_pos h1, ri_eq (k := 1) (decide_eq_true h1) b1 (by decide)]; rfl
  have b2 := belowS b1 (decide_eq_false h1)
  rw [if_neg h1]
  by_cases h2 : x.n = 0
  · rw [if_pos h2, ri_eq (k := 2) (decide_eq_true h2) b2 (by decide)]; rfl
  have b3 := belowS b2 (decide_eq_false h2)
  rw [if_neg h2]
  by_cases h3 : 4 * x.n < x.bk ∧ x.n < x.hi
  · rw [if_pos h3, ri_eq (k := 3) (decide_eq_true h3) b3 (by decide)]; rfl
  have b4 := belowS b3 (decide_eq_false h3)
  rw [if_neg h3]
  by_cases h4 : x.pa < 8 * x.n
  · rw [if_pos h4, ri_eq (k := 4) (decide_eq_true h4) b4 (by decide)]; rfl
  have b5 := belowS b4 (decide_eq_false h4)
  rw [if_neg h4]
  by_cases h5 : 3 * x.pa ≤ 4 * x.us ∧ x.n < x.hi
  · rw [if_pos h5, ri_eq (k := 5) (decide_eq_true h5) b5 (by decide)]; rfl
  have b6 := belowS b5 (decide_eq_false h5)
  rw [if_neg h5]
  by_cases h6 : 4 * x.us < x.pa ∧ x.lo < x.n ∧ 1 < x.n
  · rw [if_pos h6, ri_eq (k := 6) (decide_eq_true h6) b6 (by decide)]; rfl
  have b7 := belowS b6 (decide_eq_false h6)
  rw [if_neg h6]
  by_cases h7 : x.w = true
  · rw [if_pos h7, ri_eq (k := 7) h7 b7 (by decide)]; rfl
  have b8 := belowS b7 (p := rp x) (by show x.w = false; simpa using h7)
  rw [if_neg h7, ri_eq (k := 8) rfl b8 (by decide)]; rfl

/-- the limits are right -/
def okL (lo hi : Int) : Prop := (0 ≤ lo ∧ lo ≤ hi) ∧ hi ≤ 64
instance (lo hi : Int) : Decidable (okL lo hi) := by unfold okL; infer_instance
/-- a decision's facts for a list -/
def fx (l : List Us) (bk lo hi : Int) : Fx := ⟨l.length, bk, lo, hi, ldU l, ldP l, worB l⟩
def decE (l : List Us) (bk lo hi : Int) : Int := if chk l = 0 then (if (0 ≤ bk ∧ bk ≤ 1048576) ∧ okL lo hi then 0 else 2) else 1
def decK (l : List Us) (bk lo hi : Int) : Int := if decE l bk lo hi = 0 then dk (fx l bk lo hi) else 0
def decC (l : List Us) (bk lo hi : Int) : Int := if decE l bk lo hi = 0 then dc (fx l bk lo hi) else 0

/-- the facts of a steady demand -/
def sx (n d lo hi : Int) : Fx := ⟨n, 0, lo, hi, 64 * min d n, 64 * n, false⟩
/-- a step of Settle's: 0 none, 1 more, 2 one less -/
theorem step_eq {n d lo hi : Int} (h0 : 0 ≤ n) (hl : 0 ≤ lo) : (dk (sx n d lo hi), dc (sx n d lo hi)) =
    if n < lo then (1, min 8 (lo - n))
    else if 0 < n ∧ 3 * n ≤ 4 * min d n ∧ n < hi then (1, 1)
    else if 4 * min d n < n ∧ lo < n ∧ 1 < n then (2, 1)
    else (0, 0) := by
  rw [dec_eq]
  unfold sx
  dsimp only
  by_cases h1 : n < lo
  · rw [if_pos h1, if_pos h1]
  rw [if_neg h1, if_neg h1, if_neg (by omega)]
  by_cases h2 : n = 0
  · rw [if_pos h2, if_neg (by omega), if_neg (by omega)]
  rw [if_neg h2, if_neg (by omega), if_neg (by omega)]
  by_cases h3 : 0 < n ∧ 3 * n ≤ 4 * min d n ∧ n < hi
  · rw [if_pos h3, if_pos (by omega)]
  rw [if_neg h3, if_neg (by omega)]
  by_cases h4 : 4 * min d n < n ∧ lo < n ∧ 1 < n
  · rw [if_pos h4, if_pos (by omega)]
  rw [if_neg h4, if_neg (by omega), if_neg (by simp)]
/-- the number behind a step -/
def nx (n d lo hi : Int) : Int := if dk (sx n d lo hi) = 1 then n + dc (sx n d lo hi) else if dk (sx n d lo hi) = 2 then n - dc (sx n d lo hi) else n
def stl : Nat → Int → Int → Int → Int → Int
  | 0, n, _, _, _ => n
  | f + 1, n, d, lo, hi => if dk (sx n d lo hi) = 1 ∨ dk (sx n d lo hi) = 2 then stl f (nx n d lo hi) d lo hi else n
theorem stl_go {f : Nat} {n d lo hi : Int} (hs : dk (sx n d lo hi) = 1 ∨ dk (sx n d lo hi) = 2) : stl (f + 1) n d lo hi = stl f (nx n d lo hi) d lo hi := if_pos hs
theorem stl_no {f : Nat} {n d lo hi : Int} (hs : ¬ (dk (sx n d lo hi) = 1 ∨ dk (sx n d lo hi) = 2)) : stl f n d lo hi = n := by
  cases f with
  | zero => rfl
  | succ f => exact if_neg hs
/-- how many steps at most -/
def mu (n d lo hi : Int) : Nat := if dk (sx n d lo hi) = 1 then (65 - n).toNat else if dk (sx n d lo hi) = 2 then (n + 1).toNat else 0

structure Dom (n d lo hi : Int) : Prop where
  n0 : 0 ≤ n
  n1 : n ≤ 64
  d0 : 0 ≤ d
  l : okL lo hi

theorem step_cases {n d lo hi : Int} (h : Dom n d lo hi) :
    (dk (sx n d lo hi) = 1 ∧ 1 ≤ dc (sx n d lo hi) ∧ dc (sx n d lo hi) ≤ 8 ∧ n + dc (sx n d lo hi) ≤ hi ∧ (n < lo ∧ n + dc (sx n d lo hi) ≤ lo ∨ ¬ n < lo ∧ 0 < n ∧ 3 * n ≤ 4 * d ∧ n < hi ∧ dc (sx n d lo hi) = 1)) ∨
    (dk (sx n d lo hi) = 2 ∧ dc (sx n d lo hi) = 1 ∧ 4 * d < n ∧ lo < n ∧ 1 < n) ∨
    (dk (sx n d lo hi) = 0 ∧ dc (sx n d lo hi) = 0 ∧ ¬ n < lo ∧ ¬ (0 < n ∧ 3 * n ≤ 4 * min d n ∧ n < hi) ∧ ¬ (4 * min d n < n ∧ lo < n ∧ 1 < n)) := by
  have e := step_eq (d := d) (hi := hi) h.n0 h.l.1.1
  have h0 := h.n0
  have h1 := h.n1
  have h2 := h.d0
  obtain ⟨⟨l0, l1⟩, l2⟩ := h.l
  generalize dk (sx n d lo hi) = K at *
  generalize dc (sx n d lo hi) = C at *
  split at e
  · simp only [Prod.mk.injEq] at e
    left; omega
  · split at e
    · simp only [Prod.mk.injEq] at e
      left; omega
    · split at e
      · simp only [Prod.mk.injEq] at e
        right; left; omega
      · simp only [Prod.mk.injEq] at e
        right; right; omega

/-- a step keeps the domain, goes on one way, and makes the rest shorter -/
theorem nx_dom {n d lo hi : Int} (h : Dom n d lo hi) (hs : dk (sx n d lo hi) = 1 ∨ dk (sx n d lo hi) = 2) :
    Dom (nx n d lo hi) d lo hi ∧ mu (nx n d lo hi) d lo hi < mu n d lo hi ∧ (dk (sx n d lo hi) = 1 → dk (sx (nx n d lo hi) d lo hi) ≠ 2) ∧ (dk (sx n d lo hi) = 2 → dk (sx (nx n d lo hi) d lo hi) ≠ 1) := by
  have c1 := step_cases h
  have h0 := h.n0
  have h1 := h.n1
  have h2 := h.d0
  obtain ⟨⟨l0, l1⟩, l2⟩ := h.l
  have D : Dom (nx n d lo hi) d lo hi := by
    refine ⟨?_, ?_, h2, h.l⟩ <;> (unfold nx; generalize dk (sx n d lo hi) = K at *; generalize dc (sx n d lo hi) = C at *; rcases hs with rfl | rfl <;> simp <;> omega)
  have c2 := step_cases D
  have e : nx n d lo hi = if dk (sx n d lo hi) = 1 then n + dc (sx n d lo hi) else if dk (sx n d lo hi) = 2 then n - dc (sx n d lo hi) else n := rfl
  unfold mu
  generalize nx n d lo hi = n' at *
  generalize dk (sx n d lo hi) = K at *
  generalize dc (sx n d lo hi) = C at *
  generalize dk (sx n' d lo hi) = K' at *
  generalize dc (sx n' d lo hi) = C' at *
  rcases hs with rfl | rfl
  · simp at e
    refine ⟨D, ?_, fun _ => ?_, fun h => absurd h (by decide)⟩
    · rcases c2 with c | c | c
      · rw [c.1]; simp; omega
      · omega
      · rw [c.1]; simp; omega
    · omega
  · simp at e
    refine ⟨D, ?_, fun h => absurd h (by decide), fun _ => ?_⟩
    · rcases c2 with c | c | c
      · omega
      · rw [c.1]; simp; omega
      · rw [c.1]; simp; omega
    · omega
theorem mu_le {n d lo hi : Int} (h : Dom n d lo hi) : mu n d lo hi ≤ 65 := by
  have h0 := h.n0
  have h1 := h.n1
  unfold mu
  split
  · omega
  · split <;> omega
theorem mu_zero {n d lo hi : Int} (h : Dom n d lo hi) (hs : dk (sx n d lo hi) = 1 ∨ dk (sx n d lo hi) = 2) : 0 < mu n d lo hi := by
  have h0 := h.n0
  have h1 := h.n1
  unfold mu
  rcases hs with e | e <;> rw [e] <;> simp <;> omega
theorem stl_enough {d lo hi : Int} : ∀ {f g : Nat} {n : Int}, Dom n d lo hi → mu n d lo hi ≤ f → mu n d lo hi ≤ g → stl f n d lo hi = stl g n d lo hi := by
  intro f
  induction f with
  | zero =>
    intro g n h hf _
    have : ¬ (dk (sx n d lo hi) = 1 ∨ dk (sx n d lo hi) = 2) := fun hs => by have := mu_zero h hs; omega
    rw [stl_no this, stl_no this]
  | succ f ih =>
    intro g n h hf hg
    by_cases hs : dk (sx n d lo hi) = 1 ∨ dk (sx n d lo hi) = 2
    · have := mu_zero h hs
      obtain ⟨g', rfl⟩ : ∃ g', g = g' + 1 := ⟨g - 1, by omega⟩
      obtain ⟨D, m, _⟩ := nx_dom h hs
      rw [stl_go hs, stl_go hs]
      exact ih D (by omega) (by omega)
    · rw [stl_no hs, stl_no hs]
/-- where a steady demand settles -/
def set_ (n d lo hi : Int) : Int := stl 66 n d lo hi
theorem set_step {n d lo hi : Int} (h : Dom n d lo hi) (hs : dk (sx n d lo hi) = 1 ∨ dk (sx n d lo hi) = 2) : set_ (nx n d lo hi) d lo hi = set_ n d lo hi := by
  obtain ⟨D, m, _⟩ := nx_dom h hs
  have e : set_ n d lo hi = stl 65 (nx n d lo hi) d lo hi := stl_go (f := 65) hs
  have := mu_le D
  rw [e]
  exact stl_enough (f := 66) (g := 65) D (by omega) (by omega)
theorem set_stop {n d lo hi : Int} (hs : ¬ (dk (sx n d lo hi) = 1 ∨ dk (sx n d lo hi) = 2)) : set_ n d lo hi = n := stl_no hs
def okS (n d lo hi : Int) : Prop := okL lo hi ∧ (0 ≤ n ∧ n ≤ 64) ∧ (0 ≤ d ∧ d ≤ 1048576)
instance (n d lo hi : Int) : Decidable (okS n d lo hi) := by unfold okS; infer_instance
def setE (n d lo hi : Int) : Int := if okS n d lo hi then 0 else 2
def setN (n d lo hi : Int) : Int := if okS n d lo hi then set_ n d lo hi else 0
theorem okS_dom {n d lo hi : Int} (h : okS n d lo hi) : Dom n d lo hi := ⟨h.2.1.1, h.2.1.2, h.2.2.1, h.1⟩
/-- a settled number -/
theorem set_end {d lo hi : Int} : ∀ (f : Nat) {n : Int}, mu n d lo hi ≤ f → Dom n d lo hi → Dom (set_ n d lo hi) d lo hi ∧ ¬ (dk (sx (set_ n d lo hi) d lo hi) = 1 ∨ dk (sx (set_ n d lo hi) d lo hi) = 2) ∧ lo ≤ set_ n d lo hi ∧ (set_ n d lo hi ≤ n ∨ set_ n d lo hi ≤ hi) := by
  intro f
  induction f with
  | zero =>
    intro n hf h
    have hs : ¬ (dk (sx n d lo hi) = 1 ∨ dk (sx n d lo hi) = 2) := fun hs => by have := mu_zero h hs; omega
    rw [set_stop hs]
    refine ⟨h, hs, ?_, .inl (Int.le_refl _)⟩
    have := step_cases h
    omega
  | succ f ih =>
    intro n hf h
    by_cases hs : dk (sx n d lo hi) = 1 ∨ dk (sx n d lo hi) = 2
    · obtain ⟨D, m, _⟩ := nx_dom h hs
      have I := ih (by omega) D
      rw [set_step h hs] at I
      refine ⟨I.1, I.2.1, I.2.2.1, ?_⟩
      have c := step_cases h
      have e : nx n d lo hi = if dk (sx n d lo hi) = 1 then n + dc (sx n d lo hi) else if dk (sx n d lo hi) = 2 then n - dc (sx n d lo hi) else n := rfl
      have I4 := I.2.2.2
      generalize set_ n d lo hi = S at I4 ⊢
      generalize nx n d lo hi = n' at e I4
      clear I ih D m
      generalize dk (sx n d lo hi) = K at *
      generalize dc (sx n d lo hi) = C at *
      rcases hs with rfl | rfl
      · simp at e
        right; omega
      · simp at e
        omega
    · rw [set_stop hs]
      refine ⟨h, hs, ?_, .inl (Int.le_refl _)⟩
      have := step_cases h
      omega
end Al
end Go.Proofs.Ytkhanjhjcfhhiaa

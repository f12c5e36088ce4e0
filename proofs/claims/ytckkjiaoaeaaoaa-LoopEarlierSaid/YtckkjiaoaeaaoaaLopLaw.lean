/- What is used, and how old it is: plain laws. No condition. -/
import Derived.Test.YtckkjiaoaeaaoaaLopCnt
namespace Go.Proofs.Ytckkjiaoaeaaoaa
set_option linter.unusedVariables false
open Go
namespace Lp
theorem use_mono {a b : Fl} {ds : List Dv} {s s' : Int} (h : s ≤ s') : useN a b ds s ≤ useN a b ds s' := by
  rcases (useN_top a b ds s).1 with h1 | ⟨h1, r, t, k1, k2, k3, k4⟩
  · have := useN_bd a b ds s'; omega
  · exact (useN_top a b ds s').2 _ ⟨r, t, k1, by omega, k3, k4⟩
theorem use_rl {a b : Fl} {ds : List Dv} {s : Int} (h : 0 ≤ useN a b ds s) : rl a (useN a b ds s) < s := by
  rcases (useN_top a b ds s).1 with h1 | ⟨_, r, t, k1, k2, k3, _⟩
  · omega
  · rcases (car_top a ds (rl b r)).1 with c1 | ⟨c0, s', c1, c2⟩
    · omega
    · rw [k3] at c1
      have b1 := (arr_bd c1).2.2
      have b2 := (arr_bd k1).2.2
      omega
theorem age_cases (a b : Fl) (ds : List Dv) (k : Nat) : (useN a b ds k = -1 ∧ age a b ds k = -1) ∨ (0 ≤ useN a b ds k ∧ age a b ds k = k - rl a (useN a b ds k) ∧ 0 ≤ age a b ds k) := by
  by_cases h : useN a b ds k + 1 = 0
  · exact .inl ⟨by omega, age_no h⟩
  · have h0 := useN_bd a b ds k
    have h1 : 0 ≤ useN a b ds k := by omega
    have h2 := use_rl h1
    exact .inr ⟨h1, age_is h, by rw [age_is h]; omega⟩
/-- when the last sample was taken that was used before a slot, behind the phase; or -1 -/
def lst (a b : Fl) (ds : List Dv) : Nat → Int
  | 0 => -1
  | k + 1 => if useN a b ds k < 0 then -1 else useN a b ds k * a.pe
theorem lst_succ (a b : Fl) (ds : List Dv) (k : Nat) : lst a b ds (k + 1) = if useN a b ds (k : Int) < 0 then -1 else useN a b ds (k : Int) * a.pe := rfl
theorem lst_le {a b : Fl} {ds : List Dv} (hp : 0 ≤ a.pe) (k : Nat) : lst a b ds k = -1 ∨ (0 ≤ useN a b ds k ∧ lst a b ds k ≤ useN a b ds k * a.pe) := by
  cases k with
  | zero => exact .inl rfl
  | succ k =>
    rw [lst_succ]
    by_cases h : useN a b ds (k : Int) < 0
    · rw [if_pos h]; exact .inl rfl
    · rw [if_neg h]
      have hm := use_mono (a := a) (b := b) (ds := ds) (s := (k : Int)) (s' := ((k + 1 : Nat) : Int)) (by omega)
      exact .inr ⟨by omega, Int.mul_le_mul_of_nonneg_right hm hp⟩
theorem smp {a b : Fl} {ds : List Dv} (hp : 0 ≤ a.pe) (k : Nat) :
    (age a b ds k = -1 ∧ lst a b ds k = -1 ∧ lst a b ds (k + 1) = -1) ∨
    (∃ T, 0 ≤ age a b ds k ∧ (k : Int) - age a b ds k - a.ph = T ∧ 0 ≤ T ∧ T % a.pe = 0 ∧ lst a b ds k ≤ T ∧ lst a b ds (k + 1) = T) := by
  rcases age_cases a b ds k with ⟨h1, h2⟩ | ⟨h1, h2, h3⟩
  · refine .inl ⟨h2, ?_, by rw [lst_succ, if_pos (by omega)]⟩
    rcases lst_le (a := a) (b := b) (ds := ds) hp k with q | ⟨q, _⟩
    · exact q
    · omega
  · have h0 : 0 ≤ useN a b ds k * a.pe := Int.mul_nonneg h1 hp
    refine .inr ⟨useN a b ds k * a.pe, h3, by rw [h2]; unfold rl; omega, h0, Int.mul_emod_left _ _, ?_, by rw [lst_succ, if_neg (by omega)]⟩
    rcases lst_le (a := a) (b := b) (ds := ds) hp k with q | ⟨_, q⟩
    · omega
    · exact q

/-- each frame once -/
def dist (ds : List Dv) : Prop := ∀ (i j : Nat) (x y : Dv), i < j → ds[i]? = some x → ds[j]? = some y → ¬ (x.f = y.f ∧ x.r = y.r)
theorem arr_uniq {f : Fl} {ds : List Dv} {i : Nat} {d : Dv} (hd : dist ds) (hi : ds[i]? = some d) (hu : use f d) : arr f ds d.r = some d.t := by
  refine cnt_arr hi ⟨hu, arr_none.2 ?_⟩
  rintro e he ⟨h1, h2⟩
  obtain ⟨j, hj⟩ := List.getElem?_of_mem he
  rw [List.getElem?_take] at hj
  split at hj
  · rename_i hji
    exact hd j i e d hji hj hi ⟨h1.1.trans hu.1.symm, h2⟩
  · cases hj
/-- delivered no later -/
def sooner (f : Fl) (ds ds' : List Dv) : Prop := ∀ r t, arr f ds r = some t → ∃ t', t' ≤ t ∧ arr f ds' r = some t'
theorem car_soon {f : Fl} {ds ds' : List Dv} (h : sooner f ds ds') (t : Int) : car f ds t ≤ car f ds' t := by
  rcases (car_top f ds t).1 with h1 | ⟨h1, s, h2, h3⟩
  · have := car_bd f ds' t; omega
  · obtain ⟨s', k1, k2⟩ := h _ _ h2
    exact (car_top f ds' t).2 _ ⟨s', k2, by omega⟩
theorem use_soon {a b : Fl} {ds ds' : List Dv} (ha : sooner a ds ds') (hb : sooner b ds ds') (s : Int) : useN a b ds s ≤ useN a b ds' s := by
  rcases (useN_top a b ds s).1 with h1 | ⟨h1, r, t, k1, k2, k3, k4⟩
  · have := useN_bd a b ds' s; omega
  · obtain ⟨t', q1, q2⟩ := hb _ _ k1
    have hc := car_soon ha (rl b r)
    have := (useN_top a b ds' s).2 (car a ds' (rl b r)) ⟨r, t', q2, by omega, rfl, by omega⟩
    omega
theorem age_soon {a b : Fl} {ds ds' : List Dv} (hp : 0 ≤ a.pe) (ha : sooner a ds ds') (hb : sooner b ds ds') (k : Nat) (h : 0 ≤ age a b ds k) : 0 ≤ age a b ds' k ∧ age a b ds' k ≤ age a b ds k := by
  have hs := use_soon ha hb (k : Int)
  rcases age_cases a b ds k with ⟨h1, h2⟩ | ⟨h1, h2, h3⟩
  · omega
  · rcases age_cases a b ds' k with ⟨k1, k2⟩ | ⟨k1, k2, k3⟩
    · omega
    · have := Int.mul_le_mul_of_nonneg_right hs hp
      refine ⟨k3, ?_⟩
      rw [h2, k2]
      unfold rl
      omega
/-- the slot of a delivery that is made earlier, by one flow -/
def er (f : Fl) (d : Dv) (y v : Int) : Int := if f.id = d.f ∧ rl f d.r ≤ d.t then max (rl f d.r) (d.t - y) else v
theorem er_use {a b : Fl} (ne : a.id ≠ b.id) {d : Dv} {y : Int} (hy : 0 ≤ y) (f : Fl) (hf : f = a ∨ f = b) (h0 : ∀ k, 0 ≤ k → 0 ≤ rl f k) (hu : use f d) : use f ⟨d.f, d.r, er b d y (er a d y d.t)⟩ ∧ er b d y (er a d y d.t) ≤ d.t := by
  obtain ⟨u1, ⟨u2, u3⟩, ⟨u4, u5⟩, u6⟩ := hu
  have h0 := h0 d.r u2
  have key : er b d y (er a d y d.t) ≤ d.t ∧ rl f d.r ≤ er b d y (er a d y d.t) ∧ 0 ≤ er b d y (er a d y d.t) := by
    rcases hf with rfl | rfl
    · unfold er
      rw [if_neg (by omega), if_pos ⟨u1.symm, u6⟩]
      omega
    · unfold er
      rw [if_pos ⟨u1.symm, u6⟩]
      omega
  exact ⟨⟨u1, ⟨u2, u3⟩, ⟨key.2.2, by show er b d y _ ≤ _; omega⟩, key.2.1⟩, key.1⟩
theorem dist_set {ds : List Dv} {i : Nat} {d : Dv} {t : Int} (h : dist ds) (hi : ds[i]? = some d) : dist (ds.set i ⟨d.f, d.r, t⟩) := by
  have hl := (List.getElem?_eq_some_iff.1 hi).1
  have key : ∀ (j : Nat) (x : Dv), (ds.set i ⟨d.f, d.r, t⟩)[j]? = some x → ∃ y, ds[j]? = some y ∧ y.f = x.f ∧ y.r = x.r := by
    intro j x hx
    rw [List.getElem?_set] at hx
    split at hx
    · rename_i e
      subst e
      cases hx
      exact ⟨d, hi, rfl, rfl⟩
    · exact ⟨x, hx, rfl, rfl⟩
  intro j k x y hjk hx hy
  obtain ⟨x', a1, a2, a3⟩ := key j x hx
  obtain ⟨y', b1, b2, b3⟩ := key k y hy
  rw [← a2, ← a3, ← b2, ← b3]
  exact h j k x' y' hjk a1 b1
theorem soon_set {f : Fl} {ds : List Dv} {i : Nat} {d : Dv} {t : Int} (h : dist ds) (hi : ds[i]? = some d) (hu : use f d → use f ⟨d.f, d.r, t⟩ ∧ t ≤ d.t) : sooner f ds (ds.set i ⟨d.f, d.r, t⟩) := by
  have hl := (List.getElem?_eq_some_iff.1 hi).1
  intro r s hs
  obtain ⟨j, e, h1, ⟨h2, _⟩, rfl, rfl⟩ := arr_cnt hs
  by_cases q : j = i
  · subst q
    rw [hi] at h1
    cases h1
    obtain ⟨u1, u2⟩ := hu h2
    refine ⟨t, u2, ?_⟩
    exact arr_uniq (d := ⟨d.f, d.r, t⟩) (dist_set h hi) (by rw [List.getElem?_set_self hl]) u1
  · exact ⟨e.t, Int.le_refl _, arr_uniq (dist_set h hi) (by rw [List.getElem?_set_ne (Ne.symm q)]; exact h1) h2⟩

/-- the deliveries of n samples, with latencies -/
def dA (l : Lo) (s : Sp) (la : Nat → Int) (n : Nat) : Dv := ⟨2 * l.id, n, l.ph + (n : Int) * l.pe + la n - 1⟩
def dB (l : Lo) (s : Sp) (lb : Nat → Int) (n : Nat) : Dv := ⟨2 * l.id + 1, (n : Int) + (l.ph + s.s) / l.pe, l.ph + (n : Int) * l.pe + s.s + lb n - 1⟩
def dlv (l : Lo) (s : Sp) (la lb : Nat → Int) : Nat → List Dv
  | 0 => []
  | n + 1 => (dlv l s la lb n ++ [dA l s la n]) ++ [dB l s lb n]
theorem dlv_len (l : Lo) (s : Sp) (la lb : Nat → Int) : ∀ n, (dlv l s la lb n).length = 2 * n
  | 0 => rfl
  | n + 1 => by unfold dlv; rw [List.length_append, List.length_append, dlv_len l s la lb n]; simp only [List.length_cons, List.length_nil]; omega
section
variable {l : Lo} {s : Sp} {la lb : Nat → Int}
theorem rl_b (h : rgt l s = 0) (n : Int) : rl (fb l s) (n + (l.ph + s.s) / l.pe) = l.ph + s.s + n * l.pe := by
  unfold rl fb
  dsimp only
  rw [Int.add_mul]
  have := Int.emod_add_mul_ediv (l.ph + s.s) l.pe
  rw [Int.mul_comm l.pe] at this
  omega
/-- what the latencies and the numbers must be -/
def okD (l : Lo) (s : Sp) (la lb : Nat → Int) (N : Nat) : Prop := rgt l s = 0 ∧ (∀ i, 1 ≤ la i ∧ la i ≤ s.s) ∧ (∀ i, 1 ≤ lb i ∧ lb i ≤ s.a) ∧ N ≤ 8
theorem pe_mul {l : Lo} {s : Sp} (h : rgt l s = 0) {i N : Nat} (hi : i < N) (hN : N ≤ 8) : 0 ≤ (i : Int) * l.pe ∧ (i : Int) * l.pe ≤ 4096 := by
  obtain ⟨⟨⟨-, ⟨p1, p2⟩, -⟩, -⟩, -⟩ := rgt_inv h
  have h1 : (i : Int) * l.pe ≤ 8 * 512 := Int.mul_le_mul (by omega) p2 (by omega) (by decide)
  have h2 : 0 ≤ (i : Int) * l.pe := Int.mul_nonneg (by omega) (by omega)
  omega
theorem first_bd (h : rgt l s = 0) : 0 ≤ (l.ph + s.s) / l.pe ∧ (l.ph + s.s) / l.pe ≤ 1 := by
  obtain ⟨⟨⟨-, ⟨p1, p2⟩, ⟨q1, q2⟩, -⟩, -⟩, f1, f2, f3, f4, f5, -⟩ := rgt_inv h
  refine ⟨Int.ediv_nonneg (by omega) (by omega), ?_⟩
  have : (l.ph + s.s) / l.pe < 2 := Int.ediv_lt_of_lt_mul (by omega) (by omega)
  omega
theorem use_dA {N : Nat} (h : okD l s la lb N) {n : Nat} (hn : n < N) : use (fa l s) (dA l s la n) ∧ ¬ use (fb l s) (dA l s la n) := by
  obtain ⟨hr, h1, h2, h3⟩ := h
  obtain ⟨p1, p2⟩ := pe_mul hr hn h3
  obtain ⟨⟨⟨-, ⟨q1, q2⟩, ⟨q3, q4⟩, -⟩, -⟩, f1, f2, f3, f4, f5, -⟩ := rgt_inv hr
  have := h1 n
  refine ⟨⟨rfl, ⟨?_, ?_⟩, ⟨?_, ?_⟩, ?_⟩, fun k => ?_⟩
  · show (0 : Int) ≤ n; omega
  · show (n : Int) ≤ _; omega
  · show 0 ≤ l.ph + (n : Int) * l.pe + la n - 1; omega
  · show l.ph + (n : Int) * l.pe + la n - 1 ≤ _; omega
  · show l.ph + (n : Int) * l.pe ≤ l.ph + (n : Int) * l.pe + la n - 1; omega
  · have : 2 * l.id = 2 * l.id + 1 := k.1
    omega
theorem use_dB {N : Nat} (h : okD l s la lb N) {n : Nat} (hn : n < N) : use (fb l s) (dB l s lb n) ∧ ¬ use (fa l s) (dB l s lb n) := by
  obtain ⟨hr, h1, h2, h3⟩ := h
  obtain ⟨p1, p2⟩ := pe_mul hr hn h3
  obtain ⟨⟨⟨-, ⟨q1, q2⟩, ⟨q3, q4⟩, -⟩, -⟩, f1, f2, f3, f4, f5, -⟩ := rgt_inv hr
  obtain ⟨c1, c2⟩ := first_bd hr
  have := h2 n
  refine ⟨⟨rfl, ⟨?_, ?_⟩, ⟨?_, ?_⟩, ?_⟩, fun k => ?_⟩
  · show (0 : Int) ≤ n + (l.ph + s.s) / l.pe; omega
  · show (n : Int) + (l.ph + s.s) / l.pe ≤ _; omega
  · show 0 ≤ l.ph + (n : Int) * l.pe + s.s + lb n - 1; omega
  · show l.ph + (n : Int) * l.pe + s.s + lb n - 1 ≤ _; omega
  · show rl (fb l s) (n + (l.ph + s.s) / l.pe) ≤ l.ph + (n : Int) * l.pe + s.s + lb n - 1
    rw [rl_b hr]; omega
  · have : 2 * l.id + 1 = 2 * l.id := k.1
    omega
theorem arr_dA {N : Nat} (h : okD l s la lb N) (m t : Int) : ∀ n, n ≤ N → (arr (fa l s) (dlv l s la lb n) m = some t ↔ ∃ i : Nat, i < n ∧ m = (i : Int) ∧ t = (dA l s la i).t)
  | 0, _ => by
    unfold dlv arr
    constructor
    · intro q; cases q
    · rintro ⟨i, q, _⟩; exact absurd q (Nat.not_lt_zero _)
  | n + 1, hn => by
    have IH := arr_dA h m t n (by omega)
    have U := use_dA h (n := n) (by omega)
    have V := use_dB h (n := n) (by omega)
    unfold dlv
    rw [arr_snoc, arr_snoc]
    rw [if_neg (c := use (fa l s) (dB l s lb n) ∧ (dB l s lb n).r = m) (fun q => V.2 q.1)]
    cases e : arr (fa l s) (dlv l s la lb n) m with
    | some t0 =>
      rw [e] at IH
      simp only
      constructor
      · intro q
        obtain ⟨i, k1, k2⟩ := IH.1 q
        exact ⟨i, by omega, k2⟩
      · rintro ⟨i, k1, k2, k3⟩
        by_cases q : i < n
        · exact IH.2 ⟨i, q, k2, k3⟩
        · have q2 : i = n := by omega
          subst q2
          obtain ⟨j, j1, j2, j3⟩ := (arr_dA h m t0 i (by omega)).1 e
          omega
    | none =>
      rw [e] at IH
      simp only
      by_cases q : (dA l s la n).r = m
      · rw [if_pos ⟨U.1, q⟩]
        simp only
        have q2 : (n : Int) = m := q
        constructor
        · intro k
          cases k
          exact ⟨n, by omega, q2.symm, rfl⟩
        · rintro ⟨i, k1, k2, rfl⟩
          have : i = n := by omega
          subst this
          rfl
      · rw [if_neg (fun k => q k.2)]
        simp only
        have q2 : ¬ (n : Int) = m := q
        constructor
        · intro k; cases k
        · rintro ⟨i, k1, k2, k3⟩
          exact IH.2 ⟨i, by omega, k2, k3⟩
theorem arr_dB {N : Nat} (h : okD l s la lb N) (m t : Int) : ∀ n, n ≤ N → (arr (fb l s) (dlv l s la lb n) m = some t ↔ ∃ i : Nat, i < n ∧ m = (i : Int) + (l.ph + s.s) / l.pe ∧ t = (dB l s lb i).t)
  | 0, _ => by
    unfold dlv arr
    constructor
    · intro q; cases q
    · rintro ⟨i, q, _⟩; exact absurd q (Nat.not_lt_zero _)
  | n + 1, hn => by
    have IH := arr_dB h m t n (by omega)
    have U := use_dA h (n := n) (by omega)
    have V := use_dB h (n := n) (by omega)
    unfold dlv
    rw [arr_snoc, arr_snoc]
    rw [if_neg (c := use (fb l s) (dA l s la n) ∧ (dA l s la n).r = m) (fun q => U.2 q.1)]
    cases e : arr (fb l s) (dlv l s la lb n) m with
    | some t0 =>
      rw [e] at IH
      simp only
      constructor
      · intro q
        obtain ⟨i, k1, k2⟩ := IH.1 q
        exact ⟨i, by omega, k2⟩
      · rintro ⟨i, k1, k2, k3⟩
        by_cases q : i < n
        · exact IH.2 ⟨i, q, k2, k3⟩
        · have q2 : i = n := by omega
          subst q2
          obtain ⟨j, j1, j2, j3⟩ := (arr_dB h m t0 i (by omega)).1 e
          omega
    | none =>
      rw [e] at IH
      simp only
      by_cases q : (dB l s lb n).r = m
      · rw [if_pos ⟨V.1, q⟩]
        have q2 : (n : Int) + (l.ph + s.s) / l.pe = m := q
        constructor
        · intro k
          cases k
          exact ⟨n, by omega, q2.symm, rfl⟩
        · rintro ⟨i, k1, k2, rfl⟩
          have : i = n := by omega
          subst this
          rfl
      · rw [if_neg (fun k => q k.2)]
        have q2 : ¬ (n : Int) + (l.ph + s.s) / l.pe = m := q
        constructor
        · intro k; cases k
        · rintro ⟨i, k1, k2, k3⟩
          exact IH.2 ⟨i, by
            by_cases e2 : i = n
            · subst e2; exact absurd k2.symm q2
            · omega, k2, k3⟩
theorem mul_lt {p : Int} (hp : 1 ≤ p) {i j : Nat} (h : i < j) : (i : Int) * p + p ≤ (j : Int) * p := by
  have := Int.mul_le_mul_of_nonneg_right (show (i : Int) + 1 ≤ (j : Int) by omega) (show 0 ≤ p by omega)
  rw [Int.add_mul] at this
  omega
theorem mul_le {p : Int} (hp : 1 ≤ p) {i j : Nat} (h : i ≤ j) : (i : Int) * p ≤ (j : Int) * p := Int.mul_le_mul_of_nonneg_right (by omega) (by omega)
theorem car_d {N : Nat} (h : okD l s la lb N) {i : Nat} (hi : i < N) : car (fa l s) (dlv l s la lb N) (rl (fb l s) ((i : Int) + (l.ph + s.s) / l.pe)) = i := by
  symm
  apply car_eq
  have hr := h.1
  obtain ⟨⟨⟨-, ⟨q1, q2⟩, ⟨q3, q4⟩, -⟩, -⟩, f1, f2, f3, f4, f5, -⟩ := rgt_inv hr
  rw [rl_b hr]
  refine ⟨.inr ⟨by omega, _, (arr_dA h _ _ N (Nat.le_refl _)).2 ⟨i, hi, rfl, rfl⟩, ?_⟩, ?_⟩
  · have := h.2.1 i
    show l.ph + (i : Int) * l.pe + la i - 1 < _
    omega
  · rintro n ⟨t, k1, k2⟩
    obtain ⟨j, j1, rfl, rfl⟩ := (arr_dA h _ _ N (Nat.le_refl _)).1 k1
    by_cases q : j ≤ i
    · omega
    · have := mul_lt q1 (show i < j by omega)
      have := h.2.1 j
      have k3 : l.ph + (j : Int) * l.pe + la j - 1 < l.ph + s.s + (i : Int) * l.pe := k2
      omega
theorem in_d {N : Nat} (h : okD l s la lb N) (S n : Int) : inU (fa l s) (fb l s) (dlv l s la lb N) S n ↔ ∃ i : Nat, i < N ∧ n = (i : Int) ∧ (dB l s lb i).t < S := by
  constructor
  · rintro ⟨r, t, k1, k2, k3, k4⟩
    obtain ⟨i, i1, rfl, rfl⟩ := (arr_dB h _ _ N (Nat.le_refl _)).1 k1
    rw [car_d h i1] at k3
    exact ⟨i, i1, k3.symm, k2⟩
  · rintro ⟨i, i1, rfl, k⟩
    exact ⟨_, _, (arr_dB h _ _ N (Nat.le_refl _)).2 ⟨i, i1, rfl, rfl⟩, k, car_d h i1, by omega⟩
/-- no age is greater than the worst one -/
theorem age_d {N : Nat} (h : okD l s la lb N) (hN : 1 ≤ N) (k : Nat) (hk : (k : Int) < l.ph + ((N - 1 : Nat) : Int) * l.pe + wst l s + 1) :
    age (fa l s) (fb l s) (dlv l s la lb N) k ≤ wst l s ∧ (age (fa l s) (fb l s) (dlv l s la lb N) k < 0 → (k : Int) < l.ph + s.s + s.a) := by
  have hr := h.1
  obtain ⟨⟨⟨-, ⟨q1, q2⟩, ⟨q3, q4⟩, -⟩, -⟩, f1, f2, f3, f4, f5, -⟩ := rgt_inv hr
  have T := useN_top (fa l s) (fb l s) (dlv l s la lb N) k
  rcases age_cases (fa l s) (fb l s) (dlv l s la lb N) k with ⟨h1, h2⟩ | ⟨h1, h2, h3⟩
  · refine ⟨by rw [h2]; unfold wst; omega, fun _ => ?_⟩
    by_cases q : (k : Int) < l.ph + s.s + s.a
    · exact q
    · have b0 := h.2.2.1 0
      have := T.2 ((0 : Nat) : Int) ((in_d h _ _).2 ⟨0, by omega, rfl, by show l.ph + ((0 : Nat) : Int) * l.pe + s.s + lb 0 - 1 < _; rw [show ((0 : Nat) : Int) * l.pe = 0 by simp]; omega⟩)
      omega
  · refine ⟨?_, by omega⟩
    rcases T.1 with t1 | ⟨_, t2⟩
    · omega
    · obtain ⟨i, i1, i2, i3⟩ := (in_d h _ _).1 t2
      rw [i2] at h2
      have h2' : age (fa l s) (fb l s) (dlv l s la lb N) k = k - (l.ph + (i : Int) * l.pe) := h2
      rw [h2']
      by_cases q : i + 1 < N
      · have m1 : (((i + 1 : Nat)) : Int) * l.pe = (i : Int) * l.pe + l.pe := by rw [Int.natCast_add, Int.add_mul]; omega
        by_cases q2 : (dB l s lb (i + 1)).t < (k : Int)
        · have := T.2 _ ((in_d h _ _).2 ⟨i + 1, q, rfl, q2⟩)
          omega
        · have q3 : ¬ l.ph + (((i + 1 : Nat)) : Int) * l.pe + s.s + lb (i + 1) - 1 < (k : Int) := q2
          have := h.2.2.1 (i + 1)
          rw [m1] at q3
          unfold wst
          omega
      · have : i = N - 1 := by omega
        subst this
        omega
/-- the worst age is reached -/
theorem use_d {N : Nat} (h : okD l s la lb N) (k : Nat) (i : Nat) (hi : i < N) (h1 : (dB l s lb i).t < (k : Int)) (h2 : i + 1 < N → ¬ (dB l s lb (i + 1)).t < (k : Int)) (hb : ∀ j, lb j = s.a) : useN (fa l s) (fb l s) (dlv l s la lb N) k = i := by
  symm
  apply useN_eq
  have hr := h.1
  obtain ⟨⟨⟨-, ⟨q1, q2⟩, ⟨q3, q4⟩, -⟩, -⟩, f1, f2, f3, f4, f5, -⟩ := rgt_inv hr
  refine ⟨.inr ⟨by omega, (in_d h _ _).2 ⟨i, hi, rfl, h1⟩⟩, ?_⟩
  intro n hn
  obtain ⟨j, j1, rfl, j3⟩ := (in_d h _ _).1 hn
  by_cases q : j ≤ i
  · omega
  · have k1 : l.ph + (j : Int) * l.pe + s.s + lb j - 1 < (k : Int) := j3
    have k2 : ¬ l.ph + ((i + 1 : Nat) : Int) * l.pe + s.s + lb (i + 1) - 1 < (k : Int) := h2 (by omega)
    rw [hb] at k1 k2
    have := mul_le q1 (show i + 1 ≤ j by omega)
    omega
theorem reach_d (h : okD l s (fun _ => s.s) (fun _ => s.a) 3) (k : Nat) (hk : (k : Int) = l.ph + l.pe + s.s + s.a) :
    age (fa l s) (fb l s) (dlv l s (fun _ => s.s) (fun _ => s.a) 3) (k - 1) = wst l s ∧ age (fa l s) (fb l s) (dlv l s (fun _ => s.s) (fun _ => s.a) 3) k = s.s + s.a := by
  have hr := h.1
  obtain ⟨⟨⟨-, ⟨q1, q2⟩, ⟨q3, q4⟩, -⟩, -⟩, f1, f2, f3, f4, f5, -⟩ := rgt_inv hr
  have e0 : ((0 : Nat) : Int) * l.pe = 0 := by simp
  have e1 : ((0 + 1 : Nat) : Int) * l.pe = l.pe := by simp
  have e1' : ((1 : Nat) : Int) * l.pe = l.pe := by simp
  have e2 : ((1 + 1 : Nat) : Int) * l.pe = 2 * l.pe := rfl
  have u0 : useN (fa l s) (fb l s) (dlv l s (fun _ => s.s) (fun _ => s.a) 3) ((k - 1 : Nat) : Int) = ((0 : Nat) : Int) := by
    refine use_d h (k - 1) 0 (by omega) ?_ (fun _ => ?_) (fun _ => rfl)
    · show l.ph + ((0 : Nat) : Int) * l.pe + s.s + s.a - 1 < _
      rw [e0]; omega
    · show ¬ l.ph + ((0 + 1 : Nat) : Int) * l.pe + s.s + s.a - 1 < _
      rw [e1]; omega
  have u1 : useN (fa l s) (fb l s) (dlv l s (fun _ => s.s) (fun _ => s.a) 3) (k : Int) = ((1 : Nat) : Int) := by
    refine use_d h k 1 (by omega) ?_ (fun _ => ?_) (fun _ => rfl)
    · show l.ph + ((1 : Nat) : Int) * l.pe + s.s + s.a - 1 < _
      rw [e1']; omega
    · show ¬ l.ph + ((1 + 1 : Nat) : Int) * l.pe + s.s + s.a - 1 < _
      rw [e2]; omega
  constructor
  · rw [age_is (by omega), u0]
    show ((k - 1 : Nat) : Int) - (l.ph + ((0 : Nat) : Int) * l.pe) = wst l s
    rw [e0]
    unfold wst
    omega
  · rw [age_is (by omega), u1]
    show (k : Int) - (l.ph + ((1 : Nat) : Int) * l.pe) = _
    rw [e1']
    omega
end
end Lp
end Go.Proofs.Ytckkjiaoaeaaoaa

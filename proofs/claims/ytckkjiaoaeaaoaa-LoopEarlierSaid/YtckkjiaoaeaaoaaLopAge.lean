/- The ages of what is used in each slot: plain definitions. No condition. -/
import Derived.Test.YtckkjiaoaeaaoaaLopMap
namespace Go.Proofs.Ytckkjiaoaeaaoaa
set_option linter.unusedVariables false
open Go
namespace Lp
/-- a sample is used in a slot -/
def inU (a b : Fl) (ds : List Dv) (s n : Int) : Prop := ∃ r t, arr b ds r = some t ∧ t < s ∧ car a ds (rl b r) = n ∧ 0 ≤ n
/-- the sample that is used in a slot, or -1 -/
def useN (a b : Fl) (ds : List Dv) (s : Int) : Int := topL (ds.filterMap fun d => match arr b ds d.r with | some t => if t < s ∧ 0 ≤ car a ds (rl b d.r) then some (car a ds (rl b d.r)) else none | none => none)
theorem useN_top (a b : Fl) (ds : List Dv) (s : Int) : IsTop (inU a b ds s) (useN a b ds s) := by
  have hm : ∀ n, n ∈ (ds.filterMap fun d => match arr b ds d.r with | some t => if t < s ∧ 0 ≤ car a ds (rl b d.r) then some (car a ds (rl b d.r)) else none | none => none) ↔ inU a b ds s n := by
    intro n
    rw [List.mem_filterMap]
    constructor
    · rintro ⟨d, _, hd⟩
      split at hd
      · rename_i t ht
        split at hd
        · rename_i hc
          cases hd
          exact ⟨d.r, t, ht, hc.1, rfl, hc.2⟩
        · cases hd
      · cases hd
    · rintro ⟨r, t, ht, hts, hc, h0⟩
      obtain ⟨d, hd, _, rfl, _⟩ := arr_mem ht
      exact ⟨d, hd, by rw [ht]; simp only; rw [if_pos ⟨hts, by omega⟩, hc]⟩
  have H := topL_top (l := ds.filterMap fun d => match arr b ds d.r with | some t => if t < s ∧ 0 ≤ car a ds (rl b d.r) then some (car a ds (rl b d.r)) else none | none => none) (fun x hx => by obtain ⟨_, _, _, _, _, h⟩ := (hm x).1 hx; exact h)
  exact ⟨H.1.imp id (fun k => ⟨k.1, (hm _).1 k.2⟩), fun n hn => H.2 n ((hm n).2 hn)⟩
theorem useN_eq {a b : Fl} {ds : List Dv} {s M : Int} (h : IsTop (inU a b ds s) M) : M = useN a b ds s := h.eq (useN_top a b ds s) fun n ⟨_, _, _, _, _, h⟩ => h
theorem useN_bd (a b : Fl) (ds : List Dv) (s : Int) : -1 ≤ useN a b ds s ∧ useN a b ds s ≤ 1073741824 := by
  rcases (useN_top a b ds s).1 with h | ⟨h, r, t, _, _, hc, _⟩
  · omega
  · have := car_bd a ds (rl b r); omega
/-- the age in a slot -/
def age (a b : Fl) (ds : List Dv) (s : Nat) : Int := if useN a b ds s < 0 then -1 else s - rl a (useN a b ds s)
def ageL (a b : Fl) (ds : List Dv) (n : Nat) : List Int := (List.range n).map (age a b ds)
theorem ageL_snoc (a b : Fl) (ds : List Dv) (n : Nat) : ageL a b ds (n + 1) = ageL a b ds n ++ [age a b ds n] := by unfold ageL; rw [List.range_succ, List.map_append]; rfl
theorem ageL_len (a b : Fl) (ds : List Dv) (n : Nat) : (ageL a b ds n).length = n := by unfold ageL; simp

/-- what fresh holds, of the entries that are no longer to come -/
def FR (a b : Fl) (ds : List Dv) (N : Nat) (left : Lit → Bool) (F : Nat → Int) : Prop :=
  (∀ i, i ≤ N → 0 ≤ F i ∧ F i ≤ 1073741825 ∧ (F i = 0 ∨ ∃ r t, arr b ds r = some t ∧ t + 1 = (i : Int) ∧ car a ds (rl b r) + 1 = F i) ∧ (∀ r t, arr b ds r = some t → left (.int .i64 r) = false → t + 1 = (i : Int) → i < N → car a ds (rl b r) + 1 ≤ F i)) ∧ (∀ m : Int, left (.int .i64 m) = true → (arr b ds m).isSome = true)
theorem FR.start {a b : Fl} {ds : List Dv} {D : DataW Unit} (N : Nat) (h : Reads D (arr b ds)) : FR a b ds N (Maps.has D) (fun _ => 0) := by
  refine ⟨fun i _ => ⟨Int.le_refl _, (show (0 : Int) ≤ 1073741825 by decide), .inl rfl, fun r t ht hl => ?_⟩, fun m hm => ?_⟩
  · rw [(h.2 r).1, ht] at hl; cases hl
  · rw [(h.2 m).1] at hm; exact hm
theorem strike_no {left : Lit → Bool} {x m : Int} (h : m ≠ x) : (left (.int .i64 m) && !(Lit.int .i64 m).sameKey (.int .i64 x)) = left (.int .i64 m) := by
  rw [Maps.sameKey_ne (by intro q; cases q; exact h rfl)]; simp
theorem FR.hit {a b : Fl} {ds : List Dv} {N k : Nat} {left : Lit → Bool} {F : Nat → Int} {x : Int} (h : FR a b ds N left F) (hx : arr b ds x = some (k : Int)) (hk : k + 1 < N) :
    FR a b ds N (fun z => left z && !z.sameKey (.int .i64 x)) (fun i => if i = k + 1 then max (F i) (car a ds (rl b x) + 1) else F i) := by
  have cb := car_bd a ds (rl b x)
  refine ⟨fun i hi => ?_, fun m hm => ?_⟩
  · obtain ⟨h0, h1, h2, h3⟩ := h.1 i hi
    by_cases e : i = k + 1
    · subst e
      simp only [if_true]
      refine ⟨by omega, by omega, ?_, fun r t ht hl hti hn => ?_⟩
      · by_cases q : car a ds (rl b x) + 1 ≤ F (k + 1)
        · rw [show max (F (k + 1)) (car a ds (rl b x) + 1) = F (k + 1) by omega]; exact h2
        · exact .inr ⟨x, k, hx, by omega, by omega⟩
      · by_cases er : r = x
        · subst er; omega
        · simp only [strike_no er] at hl
          have := h3 r t ht hl hti hn
          omega
    · simp only [if_neg e]
      refine ⟨h0, h1, h2, fun r t ht hl hti hn => ?_⟩
      by_cases er : r = x
      · subst er
        rw [hx] at ht
        cases ht
        omega
      · simp only [strike_no er] at hl
        exact h3 r t ht hl hti hn
  · simp only [Bool.and_eq_true] at hm
    exact h.2 m hm.1
theorem FR.miss {a b : Fl} {ds : List Dv} {N k : Nat} {left : Lit → Bool} {F : Nat → Int} {x : Int} (h : FR a b ds N left F) (hx : arr b ds x = some (k : Int)) (hk : ¬ k + 1 < N) :
    FR a b ds N (fun z => left z && !z.sameKey (.int .i64 x)) F := by
  refine ⟨fun i hi => ?_, fun m hm => ?_⟩
  · obtain ⟨h0, h1, h2, h3⟩ := h.1 i hi
    refine ⟨h0, h1, h2, fun r t ht hl hti hn => ?_⟩
    by_cases er : r = x
    · subst er
      rw [hx] at ht
      cases ht
      omega
    · simp only [strike_no er] at hl
      exact h3 r t ht hl hti hn
  · simp only [Bool.and_eq_true] at hm
    exact h.2 m hm.1
/-- the greatest number of fresh up to a slot -/
def V (F : Nat → Int) : Nat → Int
  | 0 => 0
  | k + 1 => max (V F k) (F k)
theorem V_part {a b : Fl} {ds : List Dv} {N : Nat} {left : Lit → Bool} {F : Nat → Int} (h : FR a b ds N left F) (hl : ∀ kl, left kl = false) : ∀ k, k ≤ N → (V F k = 0 ∨ ∃ r t, arr b ds r = some t ∧ t + 1 < (k : Int) ∧ car a ds (rl b r) + 1 = V F k) ∧ 0 ≤ V F k ∧ (∀ r t, arr b ds r = some t → t + 1 < (k : Int) → car a ds (rl b r) + 1 ≤ V F k)
  | 0, _ => ⟨.inl rfl, Int.le_refl _, fun r t ht h1 => by have := (arr_bd ht).2.1.1; omega⟩
  | k + 1, hk => by
    obtain ⟨h1, h2, h3⟩ := V_part h hl k (by omega)
    obtain ⟨f0, f1, f2, f3⟩ := h.1 k (by omega)
    show (max (V F k) (F k) = 0 ∨ _) ∧ 0 ≤ max (V F k) (F k) ∧ (∀ r t, _ → _ → _ ≤ max (V F k) (F k))
    refine ⟨?_, by omega, fun r t ht hlt => ?_⟩
    · by_cases q : F k ≤ V F k
      · have e : max (V F k) (F k) = V F k := by omega
        rcases h1 with h1 | ⟨r, t, ht, htk, hc⟩
        · exact .inl (by rw [e]; exact h1)
        · exact .inr ⟨r, t, ht, by omega, by show _ = max (V F k) (F k); rw [e]; exact hc⟩
      · have e : max (V F k) (F k) = F k := by omega
        rcases f2 with f2 | ⟨r, t, ht, htk, hc⟩
        · exact .inl (by rw [e]; exact f2)
        · exact .inr ⟨r, t, ht, by omega, by show _ = max (V F k) (F k); rw [e]; exact hc⟩
    · by_cases q : t + 1 < (k : Int)
      · have := h3 r t ht q; omega
      · have := f3 r t ht (hl _) (by omega) (by omega); omega
theorem V_use {a b : Fl} {ds : List Dv} {N : Nat} {left : Lit → Bool} {F : Nat → Int} (h : FR a b ds N left F) (hl : ∀ kl, left kl = false) {k : Nat} (hk : k < N) : V F (k + 1) = useN a b ds k + 1 := by
  obtain ⟨h1, h2, h3⟩ := V_part h hl (k + 1) (by omega)
  have H : IsTop (inU a b ds k) (V F (k + 1) - 1) := by
    refine ⟨?_, fun n ⟨r, t, ht, hts, hc, _⟩ => ?_⟩
    · rcases h1 with h1 | ⟨r, t, ht, htk, hc⟩
      · exact .inl (by omega)
      · by_cases q : 0 ≤ V F (k + 1) - 1
        · exact .inr ⟨q, r, t, ht, by omega, by omega, q⟩
        · exact .inl (by have := car_bd a ds (rl b r); omega)
    · have := h3 r t ht (by omega)
      omega
  have := useN_eq H
  omega
theorem age_no {a b : Fl} {ds : List Dv} {k : Nat} (h : useN a b ds k + 1 = 0) : age a b ds k = -1 := by unfold age; rw [if_pos (by omega)]
theorem age_is {a b : Fl} {ds : List Dv} {k : Nat} (h : ¬ useN a b ds k + 1 = 0) : age a b ds k = k - rl a (useN a b ds k) := by
  have := useN_bd a b ds k
  unfold age; rw [if_neg (by omega)]
end Lp
end Go.Proofs.Ytckkjiaoaeaaoaa

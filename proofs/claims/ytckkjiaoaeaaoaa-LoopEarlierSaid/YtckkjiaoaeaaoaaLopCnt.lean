/- Which deliveries count, one by one: plain laws. No condition. -/
import Derived.Test.YtckkjiaoaeaaoaaLopAge
namespace Go.Proofs.Ytckkjiaoaeaaoaa
set_option linter.unusedVariables false
open Go
namespace Lp
theorem arr_none {f : Fl} {n : Int} : ∀ {l : List Dv}, arr f l n = none ↔ ∀ d ∈ l, ¬ (use f d ∧ d.r = n)
  | [] => by simp [arr]
  | x :: l => by
    unfold arr
    by_cases h : use f x ∧ x.r = n
    · rw [if_pos h]
      constructor
      · intro h2; cases h2
      · intro h2; exact absurd h (h2 x (List.mem_cons_self ..))
    · rw [if_neg h]
      constructor
      · intro h2 d hd
        rcases List.mem_cons.1 hd with rfl | hd
        · exact h
        · exact arr_none.1 h2 d hd
      · intro h2
        exact arr_none.2 fun d hd => h2 d (List.mem_cons_of_mem _ hd)
theorem arr_app (f : Fl) (n : Int) (l2 : List Dv) : ∀ l1 : List Dv, arr f (l1 ++ l2) n = match arr f l1 n with | some t => some t | none => arr f l2 n
  | [] => by simp [arr]
  | x :: l => by
    simp only [List.cons_append, arr]
    split
    · rfl
    · exact arr_app f n l2 l
/-- a delivery counts at an index -/
def cnt (f : Fl) (ds : List Dv) (i : Nat) (d : Dv) : Prop := use f d ∧ arr f (ds.take i) d.r = none
instance (f : Fl) (ds : List Dv) (i : Nat) (d : Dv) : Decidable (cnt f ds i d) := by unfold cnt; infer_instance
theorem split_at {α : Type} {ds : List α} {i : Nat} {d : α} (hd : ds[i]? = some d) : ds = ds.take i ++ d :: ds.drop (i + 1) := by
  obtain ⟨hl, rfl⟩ := List.getElem?_eq_some_iff.1 hd
  rw [← List.drop_eq_getElem_cons hl, List.take_append_drop]
theorem cnt_arr {f : Fl} {ds : List Dv} {i : Nat} {d : Dv} (hd : ds[i]? = some d) (h : cnt f ds i d) : arr f ds d.r = some d.t := by
  have e := arr_app f d.r (d :: ds.drop (i + 1)) (ds.take i)
  rw [← split_at hd, h.2] at e
  rw [e]
  exact if_pos ⟨h.1, rfl⟩
theorem arr_cnt {f : Fl} {n t : Int} : ∀ {ds : List Dv}, arr f ds n = some t → ∃ i d, ds[i]? = some d ∧ cnt f ds i d ∧ d.r = n ∧ d.t = t
  | [], h => by simp [arr] at h
  | x :: l, h => by
    unfold arr at h
    by_cases hx : use f x ∧ x.r = n
    · rw [if_pos hx] at h
      cases h
      exact ⟨0, x, rfl, ⟨hx.1, rfl⟩, hx.2, rfl⟩
    · rw [if_neg hx] at h
      obtain ⟨i, d, h1, ⟨h2, h3⟩, rfl, h5⟩ := arr_cnt h
      refine ⟨i + 1, d, h1, ⟨h2, ?_⟩, rfl, h5⟩
      rw [List.take_succ_cons]
      unfold arr
      rw [if_neg hx]
      exact h3
/-- one more number, or none -/
theorem IsTop.step {P P' : Int → Prop} {M c : Int} (h : IsTop P M) (hc : -1 ≤ c) (hp : ∀ n, P' n ↔ (P n ∨ (n = c ∧ 0 ≤ n))) : IsTop P' (max M c) := by
  refine ⟨?_, fun n hn => ?_⟩
  · by_cases q : c ≤ M
    · rw [show max M c = M by omega]
      exact h.1.imp id fun k => ⟨k.1, (hp _).2 (.inl k.2)⟩
    · rw [show max M c = c by omega]
      by_cases q2 : 0 ≤ c
      · exact .inr ⟨q2, (hp _).2 (.inr ⟨rfl, q2⟩)⟩
      · exact .inl (by omega)
  · rcases (hp n).1 hn with k | ⟨rfl, _⟩
    · have := h.2 n k; omega
    · omega
theorem IsTop.same {P P' : Int → Prop} {M : Int} (h : IsTop P M) (hp : ∀ n, P' n ↔ P n) : IsTop P' M :=
  ⟨h.1.imp id fun k => ⟨k.1, (hp _).2 k.2⟩, fun n hn => h.2 n ((hp n).1 hn)⟩
theorem IsTop.none {P : Int → Prop} (h : ∀ n, ¬ P n) : IsTop P (-1) := ⟨.inl rfl, fun n hn => absurd hn (h n)⟩
theorem IsTop.bd {P : Int → Prop} {M B : Int} (h : IsTop P M) (hb : ∀ n, P n → n ≤ B) (hB : -1 ≤ B) : -1 ≤ M ∧ M ≤ B := by
  rcases h.1 with h1 | ⟨h1, h2⟩
  · omega
  · have := hb _ h2; omega
/-- the frames among the first k deliveries that were delivered before a slot -/
def befK (f : Fl) (ds : List Dv) (t : Int) (k : Nat) (n : Int) : Prop := ∃ i d, i < k ∧ ds[i]? = some d ∧ cnt f ds i d ∧ d.t < t ∧ d.r = n
theorem befK_zero (f : Fl) (ds : List Dv) (t n : Int) : ¬ befK f ds t 0 n := fun ⟨i, d, h, _⟩ => absurd h (Nat.not_lt_zero _)
theorem befK_hit {f : Fl} {ds : List Dv} {t : Int} {k : Nat} {d : Dv} (hd : ds[k]? = some d) (hc : cnt f ds k d) (ht : d.t < t) (n : Int) : befK f ds t (k + 1) n ↔ (befK f ds t k n ∨ (n = d.r ∧ 0 ≤ n)) := by
  constructor
  · rintro ⟨i, e, h1, h2, h3, h4, rfl⟩
    by_cases q : i = k
    · subst q
      rw [hd] at h2
      cases h2
      exact .inr ⟨rfl, hc.1.2.1.1⟩
    · exact .inl ⟨i, e, by omega, h2, h3, h4, rfl⟩
  · rintro (⟨i, e, h1, h2⟩ | ⟨rfl, _⟩)
    · exact ⟨i, e, by omega, h2⟩
    · exact ⟨k, d, by omega, hd, hc, ht, rfl⟩
theorem befK_miss {f : Fl} {ds : List Dv} {t : Int} {k : Nat} {d : Dv} (hd : ds[k]? = some d) (hc : ¬ (cnt f ds k d ∧ d.t < t)) (n : Int) : befK f ds t (k + 1) n ↔ befK f ds t k n := by
  constructor
  · rintro ⟨i, e, h1, h2, h3, h4, rfl⟩
    by_cases q : i = k
    · subst q
      rw [hd] at h2
      cases h2
      exact absurd ⟨h3, h4⟩ hc
    · exact ⟨i, e, by omega, h2, h3, h4, rfl⟩
  · rintro ⟨i, e, h1, h2⟩
    exact ⟨i, e, by omega, h2⟩
theorem befK_all {f : Fl} {ds : List Dv} {t : Int} (n : Int) : bef f ds t n ↔ befK f ds t ds.length n := by
  constructor
  · rintro ⟨s, h1, h2⟩
    obtain ⟨i, d, k1, k2, rfl, rfl⟩ := arr_cnt h1
    exact ⟨i, d, (List.getElem?_eq_some_iff.1 k1).1, k1, k2, h2, rfl⟩
  · rintro ⟨i, d, _, h2, h3, h4, rfl⟩
    exact ⟨d.t, cnt_arr h2 h3, h4⟩
theorem befK_bd {f : Fl} {ds : List Dv} {t : Int} {k : Nat} {M : Int} (h : IsTop (befK f ds t k) M) : -1 ≤ M ∧ M ≤ 1073741824 :=
  h.bd (fun n ⟨i, d, _, _, h3, _, h5⟩ => by have := h3.1.2.1.2; omega) (by decide)
theorem car_of {f : Fl} {ds : List Dv} {t : Int} {M : Int} (h : IsTop (befK f ds t ds.length) M) : M = car f ds t := car_eq (h.same befK_all)
/-- the samples among the first k deliveries that are used in a slot -/
def inK (a b : Fl) (ds : List Dv) (s : Int) (k : Nat) (n : Int) : Prop := ∃ i d, i < k ∧ ds[i]? = some d ∧ cnt b ds i d ∧ d.t < s ∧ car a ds (rl b d.r) = n ∧ 0 ≤ n
theorem inK_zero (a b : Fl) (ds : List Dv) (s n : Int) : ¬ inK a b ds s 0 n := fun ⟨i, d, h, _⟩ => absurd h (Nat.not_lt_zero _)
theorem inK_hit {a b : Fl} {ds : List Dv} {s : Int} {k : Nat} {d : Dv} (hd : ds[k]? = some d) (hc : cnt b ds k d) (ht : d.t < s) (n : Int) : inK a b ds s (k + 1) n ↔ (inK a b ds s k n ∨ (n = car a ds (rl b d.r) ∧ 0 ≤ n)) := by
  constructor
  · rintro ⟨i, e, h1, h2, h3, h4, h5, h6⟩
    by_cases q : i = k
    · subst q
      rw [hd] at h2
      cases h2
      exact .inr ⟨h5.symm, h6⟩
    · exact .inl ⟨i, e, by omega, h2, h3, h4, h5, h6⟩
  · rintro (⟨i, e, h1, h2⟩ | ⟨h5, h6⟩)
    · exact ⟨i, e, by omega, h2⟩
    · exact ⟨k, d, by omega, hd, hc, ht, h5.symm, h6⟩
theorem inK_miss {a b : Fl} {ds : List Dv} {s : Int} {k : Nat} {d : Dv} (hd : ds[k]? = some d) (hc : ¬ (cnt b ds k d ∧ d.t < s)) (n : Int) : inK a b ds s (k + 1) n ↔ inK a b ds s k n := by
  constructor
  · rintro ⟨i, e, h1, h2, h3, h4, h5, h6⟩
    by_cases q : i = k
    · subst q
      rw [hd] at h2
      cases h2
      exact absurd ⟨h3, h4⟩ hc
    · exact ⟨i, e, by omega, h2, h3, h4, h5, h6⟩
  · rintro ⟨i, e, h1, h2⟩
    exact ⟨i, e, by omega, h2⟩
theorem inK_all {a b : Fl} {ds : List Dv} {s : Int} (n : Int) : inU a b ds s n ↔ inK a b ds s ds.length n := by
  constructor
  · rintro ⟨r, t, h1, h2, h3, h4⟩
    obtain ⟨i, d, k1, k2, rfl, rfl⟩ := arr_cnt h1
    exact ⟨i, d, (List.getElem?_eq_some_iff.1 k1).1, k1, k2, h2, h3, h4⟩
  · rintro ⟨i, d, _, h2, h3, h4, h5, h6⟩
    exact ⟨d.r, d.t, cnt_arr h2 h3, h4, h5, h6⟩
theorem inK_bd {a b : Fl} {ds : List Dv} {s : Int} {k : Nat} {M : Int} (h : IsTop (inK a b ds s k) M) : -1 ≤ M ∧ M ≤ 1073741824 :=
  h.bd (fun n ⟨i, d, _, _, h3, _, h5, _⟩ => by have := car_bd a ds (rl b d.r); omega) (by decide)
theorem use_of {a b : Fl} {ds : List Dv} {s : Int} {M : Int} (h : IsTop (inK a b ds s ds.length) M) : M = useN a b ds s := useN_eq (h.same inK_all)
theorem rl_bd {f : Fl} (h : Fw.chk 32 f = 0) {k : Int} (k0 : 0 ≤ k) (k1 : k ≤ 1073741824) : (0 ≤ k * f.pe ∧ k * f.pe ≤ 549755813888) ∧ (0 ≤ f.ph ∧ f.ph ≤ 512) ∧ (1 ≤ f.pe ∧ f.pe ≤ 512) := by
  obtain ⟨ho, -⟩ := Fw.chk_inv h
  obtain ⟨_, p1, p2, p3, p4, _⟩ := ho
  have h1 : k * f.pe ≤ 1073741824 * 512 := Int.mul_le_mul k1 p2 (by omega) (by decide)
  have h2 : 0 ≤ k * f.pe := Int.mul_nonneg k0 (by omega)
  omega
end Lp
end Go.Proofs.Ytckkjiaoaeaaoaa

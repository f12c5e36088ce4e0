/- When each frame of a flow was delivered: plain definitions; a map's datum that reads as a function. No condition. -/
import Derived.Test.YtckkjiaoaeaaoaaLopPlain
import Derived.Maps.Own
import Derived.Maps.OwnSet
namespace Go.Proofs.Ytckkjiaoaeaaoaa
set_option linter.unusedVariables false
open Go
namespace Lp
/-- the slot in which a frame is released -/
def rl (f : Fl) (k : Int) : Int := f.ph + k * f.pe
/-- a delivery counts -/
def use (f : Fl) (d : Dv) : Prop := d.f = f.id ∧ (0 ≤ d.r ∧ d.r ≤ 1073741824) ∧ (0 ≤ d.t ∧ d.t ≤ 1073741824) ∧ rl f d.r ≤ d.t
instance (f : Fl) (d : Dv) : Decidable (use f d) := by unfold use; infer_instance
/-- the slot in which a frame was delivered first -/
def arr (f : Fl) : List Dv → Int → Option Int
  | [], _ => none
  | d :: ds, n => if use f d ∧ d.r = n then some d.t else arr f ds n
theorem arr_snoc (f : Fl) (d : Dv) (n : Int) : ∀ ds : List Dv, arr f (ds ++ [d]) n = match arr f ds n with | some t => some t | none => if use f d ∧ d.r = n then some d.t else none
  | [] => by simp only [List.nil_append, arr]
  | x :: ds => by
    simp only [List.cons_append, arr]
    split
    · rfl
    · exact arr_snoc f d n ds
theorem arr_mem {f : Fl} {n t : Int} : ∀ {ds : List Dv}, arr f ds n = some t → ∃ d ∈ ds, use f d ∧ d.r = n ∧ d.t = t
  | [], h => by simp [arr] at h
  | x :: ds, h => by
    unfold arr at h
    split at h
    · rename_i h1
      cases h
      exact ⟨x, List.mem_cons_self .., h1.1, h1.2, rfl⟩
    · obtain ⟨d, hd, k⟩ := arr_mem h
      exact ⟨d, List.mem_cons_of_mem _ hd, k⟩
theorem arr_bd {f : Fl} {n t : Int} {ds : List Dv} (h : arr f ds n = some t) : (0 ≤ n ∧ n ≤ 1073741824) ∧ (0 ≤ t ∧ t ≤ 1073741824) ∧ rl f n ≤ t := by
  obtain ⟨d, _, ⟨_, h1, h2, h3⟩, rfl, rfl⟩ := arr_mem h
  exact ⟨h1, h2, h3⟩
end Lp

/-- a map's datum reads as a function -/
def Reads (D : DataW Unit) (g : Int → Option Int) : Prop := Maps.IsMap D ∧ ∀ n : Int, Maps.has D (.int .i64 n) = (g n).isSome ∧ ∀ t zd, g n = some t → D.atKey (.int .i64 n) zd = .lit (.int .i64 t)
theorem Reads.empty : Reads (.map []) (fun _ => none) := ⟨Maps.isMap_empty, fun n => ⟨rfl, fun t zd h => by cases h⟩⟩
theorem Reads.put {D : DataW Unit} {g : Int → Option Int} (h : Reads D g) (n t : Int) : Reads (D.put (.int .i64 n) (.lit (.int .i64 t))) (fun m => if m = n then some t else g m) := by
  refine ⟨h.1.put _ _, fun m => ?_⟩
  by_cases e : m = n
  · subst e
    refine ⟨by simp only [if_pos]; exact Maps.has_put_same h.1 (by trivial) _, fun s zd hs => ?_⟩
    simp only [if_pos] at hs
    cases hs
    exact Maps.atKey_put_same h.1 (by trivial) _ _
  · have ne : (Lit.int .i64 m) ≠ .int .i64 n := fun q => by cases q; exact e rfl
    refine ⟨by simp only [if_neg e]; rw [Maps.has_put_other ne]; exact (h.2 m).1, fun s zd hs => ?_⟩
    simp only [if_neg e] at hs
    rw [Maps.atKey_put_other ne]
    exact (h.2 m).2 s zd hs
theorem Reads.to {D : DataW Unit} {g g' : Int → Option Int} (h : Reads D g) (e : ∀ n, g n = g' n) : Reads D g' := by
  have : g = g' := funext e
  rwa [← this]
/-- one more delivery that counts -/
theorem Reads.more {D : DataW Unit} {f : Fl} {ds : List Dv} {d : Dv} (h : Reads D (Lp.arr f ds)) (hu : Lp.use f d) (hn : Lp.arr f ds d.r = none) : Reads (D.put (.int .i64 d.r) (.lit (.int .i64 d.t))) (Lp.arr f (ds ++ [d])) := by
  refine (h.put d.r d.t).to fun n => ?_
  rw [Lp.arr_snoc]
  by_cases e : n = d.r
  · subst e; rw [if_pos rfl, hn]; simp [hu]
  · rw [if_neg e]
    cases Lp.arr f ds n with
    | some t => rfl
    | none => simp only; rw [if_neg (fun q => e q.2.symm)]
/-- one more that does not -/
theorem Reads.none {D : DataW Unit} {f : Fl} {ds : List Dv} {d : Dv} (h : Reads D (Lp.arr f ds)) (hu : ¬ Lp.use f d) : Reads D (Lp.arr f (ds ++ [d])) := by
  refine h.to fun n => ?_
  rw [Lp.arr_snoc]
  cases Lp.arr f ds n with
  | some t => rfl
  | none => simp only; rw [if_neg (fun q => hu q.1)]
theorem Reads.old {D : DataW Unit} {f : Fl} {ds : List Dv} {d : Dv} {t : Int} (h : Reads D (Lp.arr f ds)) (hn : Lp.arr f ds d.r = some t) : Reads D (Lp.arr f (ds ++ [d])) := by
  refine h.to fun n => ?_
  rw [Lp.arr_snoc]
  by_cases e : n = d.r
  · subst e; rw [hn]
  · cases Lp.arr f ds n with
    | some t => rfl
    | none => simp only; rw [if_neg (fun q => e q.2.symm)]

namespace Lp
/-- the greatest number with a property, or -1 -/
def IsTop (P : Int → Prop) (M : Int) : Prop := (M = -1 ∨ (0 ≤ M ∧ P M)) ∧ ∀ n, P n → n ≤ M
theorem IsTop.eq {P : Int → Prop} {M N : Int} (h : IsTop P M) (k : IsTop P N) (hp : ∀ n, P n → 0 ≤ n) : M = N := by
  rcases h.1 with h1 | ⟨h1, h2⟩ <;> rcases k.1 with k1 | ⟨k1, k2⟩
  · omega
  · have := h.2 N k2; omega
  · have := k.2 M h2; omega
  · have := h.2 N k2; have := k.2 M h2; omega
/-- the greatest of a list of numbers, or -1 -/
def topL (l : List Int) : Int := l.foldl max (-1)
theorem topL_max (l : List Int) : ∀ m, m ≤ l.foldl max m ∧ (∀ x ∈ l, x ≤ l.foldl max m) ∧ (l.foldl max m = m ∨ l.foldl max m ∈ l) := by
  induction l with
  | nil => intro m; simp
  | cons a l ih =>
    intro m
    obtain ⟨h1, h2, h3⟩ := ih (max m a)
    refine ⟨by simp only [List.foldl_cons]; omega, fun x hx => ?_, ?_⟩
    · simp only [List.foldl_cons]
      rcases List.mem_cons.1 hx with rfl | hx
      · omega
      · exact h2 x hx
    · simp only [List.foldl_cons]
      rcases h3 with h3 | h3
      · by_cases q : a ≤ m
        · exact .inl (by rw [h3]; omega)
        · exact .inr (by rw [h3, show max m a = a by omega]; exact List.mem_cons_self ..)
      · exact .inr (List.mem_cons_of_mem _ h3)
theorem topL_top {l : List Int} (h : ∀ x ∈ l, 0 ≤ x) : IsTop (· ∈ l) (topL l) := by
  obtain ⟨h1, h2, h3⟩ := topL_max l (-1)
  refine ⟨?_, h2⟩
  rcases h3 with h3 | h3
  · exact .inl h3
  · exact .inr ⟨h _ h3, h3⟩
/-- the frames that were delivered before a slot -/
def bef (f : Fl) (ds : List Dv) (t : Int) (n : Int) : Prop := ∃ s, arr f ds n = some s ∧ s < t
/-- the sample that is carried by a frame that is released in a slot, or -1 -/
def car (f : Fl) (ds : List Dv) (t : Int) : Int := topL (ds.filterMap fun d => match arr f ds d.r with | some s => if s < t then some d.r else none | none => none)
theorem car_top (f : Fl) (ds : List Dv) (t : Int) : IsTop (bef f ds t) (car f ds t) := by
  have hm : ∀ n, n ∈ (ds.filterMap fun d => match arr f ds d.r with | some s => if s < t then some d.r else none | none => none) ↔ bef f ds t n := by
    intro n
    rw [List.mem_filterMap]
    constructor
    · rintro ⟨d, _, hd⟩
      split at hd
      · rename_i s hs
        split at hd
        · cases hd; exact ⟨s, hs, by assumption⟩
        · cases hd
      · cases hd
    · rintro ⟨s, hs, hst⟩
      obtain ⟨d, hd, _, rfl, _⟩ := arr_mem hs
      exact ⟨d, hd, by rw [hs]; simp only; rw [if_pos hst]⟩
  have h0 : ∀ n, bef f ds t n → 0 ≤ n := fun n ⟨s, hs, _⟩ => (arr_bd hs).1.1
  have H := topL_top (l := ds.filterMap fun d => match arr f ds d.r with | some s => if s < t then some d.r else none | none => none) (fun x hx => h0 x ((hm x).1 hx))
  exact ⟨H.1.imp id (fun k => ⟨k.1, (hm _).1 k.2⟩), fun n hn => H.2 n ((hm n).2 hn)⟩
theorem car_eq {f : Fl} {ds : List Dv} {t M : Int} (h : IsTop (bef f ds t) M) : M = car f ds t := h.eq (car_top f ds t) fun n ⟨s, hs, _⟩ => (arr_bd hs).1.1
theorem car_bd (f : Fl) (ds : List Dv) (t : Int) : -1 ≤ car f ds t ∧ car f ds t ≤ 1073741824 := by
  rcases (car_top f ds t).1 with h | ⟨h, s, hs, _⟩
  · omega
  · have := (arr_bd hs).1; omega
end Lp
end Go.Proofs.Ytckkjiaoaeaaoaa

/- Plain definitions of what timesync's Run and Spread compute. No condition. -/
import Derived.Test.YtjiaemmhjkhdhaaTmsPlain
import Derived.Test.YtjiaemmhjkhdhaaDepPlain
namespace Go.Proofs.Ytjiaemmhjkhdhaa

/-- a state -/
structure Sy where
  o : Int
  d : Int
  s : Int
  c : Int
  deriving DecidableEq, Inhabited
/-- a correction -/
structure Yn where
  n : Int
  t : Int
  a : Bool
  deriving DecidableEq, Inhabited
namespace Ru
def okS (x : Sy) : Prop := Ts.okS x.o x.d x.s x.c
instance (x : Sy) : Decidable (okS x) := by unfold okS; infer_instance
def okL (l : List Sy) : Prop := ∀ x ∈ l, okS x
instance (l : List Sy) : Decidable (okL l) := by unfold okL; infer_instance
def chk (x : Sy) : Int := Ts.chkS x.o x.d x.s x.c
/-- a node hears its parent -/
noncomputable def hr (x : Sy) (po pd t : Int) : Ts.St := if Ck.inE po pd t 2120 = 0 then Ts.hear x.o x.d x.s x.c t (Ck.inN po pd t 2120) else Ts.no (Ck.inE po pd t 2120)
/-- a node is acknowledged -/
noncomputable def ak (x : Sy) (po pd t : Int) : Ts.St :=
  if Ck.inE x.o x.d t 2120 = 0 then (if Ts.meaE po pd t (Ck.inN x.o x.d t 2120) = 0 then Ts.ack x.o x.d x.s x.c t (Ts.meaN po pd t (Ck.inN x.o x.d t 2120)) else Ts.no (Ts.meaE po pd t (Ck.inN x.o x.d t 2120))) else Ts.no (Ck.inE x.o x.d t 2120)
noncomputable def stp (x : Sy) (po pd t : Int) (a : Bool) : Ts.St := if a then ak x po pd t else hr x po pd t
/-- the state of a result -/
def sy (q : Ts.St) : Sy := ⟨q.o, q.d, q.s, q.c⟩

theorem cor_okS {o d s c t n : Int} (hk : Ts.okS o d s c) (t0 : 0 ≤ t) (t1 : t ≤ 109951162) (he : (Ts.cor o d s c t n).e = 0) : okS (sy (Ts.cor o d s c t n)) := by
  by_cases h1 : t ≤ s
  · rw [Ts.cor_order h1] at he; exact absurd he (by decide)
  · by_cases h2 : n < -4999 ∨ 4999 < n
    · rw [Ts.cor_late h1 h2] at he; exact absurd he (by decide)
    · by_cases h3 : c = 4096
      · rw [Ts.cor_full h1 h2 h3] at he; exact absurd he (by decide)
      · by_cases h4 : Ck.adjOk o d n
        · rw [Ts.cor_ok h1 h2 h3 h4]
          obtain ⟨k1, k2, k3, k4, k5⟩ := hk
          exact ⟨h4.2.2.2, .inr ⟨t0, t1⟩, by show 0 ≤ c + 1; omega, by show c + 1 ≤ 4096; omega, by show c + 1 = 0 ↔ t = -1; omega⟩
        · rw [Ts.cor_arg h1 h2 h3 h4] at he; exact absurd he (by decide)
theorem hear_okS {o d s c t u : Int} (he : (Ts.hear o d s c t u).e = 0) : okS (sy (Ts.hear o d s c t u)) := by
  unfold Ts.hear at he ⊢
  by_cases hk : Ts.okS o d s c
  · rw [if_pos hk] at he ⊢
    by_cases hm : Ts.meaE o d t u = 0
    · rw [if_pos hm] at he ⊢
      have : Ts.meaOk o d t u := by
        unfold Ts.meaE at hm
        split at hm
        · split at hm
          · assumption
          · exact absurd hm (by decide)
        · exact absurd hm (by decide)
      exact cor_okS hk this.2.1 this.2.2.1 he
    · rw [if_neg hm] at he
      exact absurd he hm
  · rw [if_neg hk] at he; exact absurd he (by decide)
theorem ack_okS {o d s c t n : Int} (he : (Ts.ack o d s c t n).e = 0) : okS (sy (Ts.ack o d s c t n)) := by
  unfold Ts.ack at he ⊢
  by_cases hk : Ts.okS o d s c
  · rw [if_pos hk] at he ⊢
    by_cases hm : 0 ≤ t ∧ t ≤ 109951162
    · rw [if_pos hm] at he ⊢
      exact cor_okS hk hm.1 hm.2 he
    · rw [if_neg hm] at he; exact absurd he (by decide)
  · rw [if_neg hk] at he; exact absurd he (by decide)
theorem stp_okS {x : Sy} {po pd t : Int} {a : Bool} (he : (stp x po pd t a).e = 0) : okS (sy (stp x po pd t a)) := by
  unfold stp at he ⊢
  cases a with
  | true =>
    simp only [if_true] at he ⊢
    unfold ak at he ⊢
    by_cases h1 : Ck.inE x.o x.d t 2120 = 0
    · rw [if_pos h1] at he ⊢
      by_cases h2 : Ts.meaE po pd t (Ck.inN x.o x.d t 2120) = 0
      · rw [if_pos h2] at he ⊢; exact ack_okS he
      · rw [if_neg h2] at he; exact absurd he h2
    · rw [if_neg h1] at he; exact absurd he h1
  | false =>
    simp only [Bool.false_eq_true, if_false] at he ⊢
    unfold hr at he ⊢
    by_cases h1 : Ck.inE po pd t 2120 = 0
    · rw [if_pos h1] at he ⊢; exact hear_okS he
    · rw [if_neg h1] at he; exact absurd he h1

/-- the state at an index -/
def gt (l : List Sy) (i : Nat) : Sy := l.getD i default
theorem gt_get {l : List Sy} {i : Nat} (h : i < l.length) : l[i]? = some (gt l i) := by
  unfold gt; rw [List.getD_eq_getElem?_getD, List.getElem?_eq_getElem h]; rfl
theorem gt_mem {l : List Sy} {i : Nat} (h : i < l.length) : gt l i ∈ l := List.mem_of_getElem? (gt_get h)
/-- one correction of a list of states -/
noncomputable def cor1 (p : List Int) (l : List Sy) (y : Yn) : Ts.St := stp (gt l y.n.toNat) (gt l (Dp.par p y.n.toNat).toNat).o (gt l (Dp.par p y.n.toNat).toNat).d y.t y.a
/-- all corrections -/
noncomputable def runs (p : List Int) : List Sy → List Yn → Int → List Sy × Int × Int
  | l, [], _ => (l, -1, 0)
  | l, y :: ys, i => if y.n < 1 ∨ (l.length : Int) ≤ y.n then ([], i, 7) else if (cor1 p l y).e = 0 then runs p (l.set y.n.toNat (sy (cor1 p l y))) ys (i + 1) else ([], i, (cor1 p l y).e)
def okR (p : List Int) (l : List Sy) (ys : List Yn) : Prop := Dp.okD p ∧ l.length = p.length ∧ ys.length ≤ 1024 ∧ okL l
instance (p : List Int) (l : List Sy) (ys : List Yn) : Decidable (okR p l ys) := by unfold okR; infer_instance
noncomputable def run (p : List Int) (l : List Sy) (ys : List Yn) : List Sy × Int × Int := if okR p l ys then runs p l ys 0 else ([], -1, 1)

theorem okL_set {l : List Sy} {i : Nat} {x : Sy} (h : okL l) (hx : okS x) : okL (l.set i x) := fun y hy => by
  rcases List.mem_or_eq_of_mem_set hy with hy | rfl
  · exact h y hy
  · exact hx
theorem runs_nil (p : List Int) (l : List Sy) (i : Int) : runs p l [] i = (l, -1, 0) := rfl
theorem runs_bad {p : List Int} {l : List Sy} {y : Yn} {ys : List Yn} {i : Int} (h : y.n < 1 ∨ (l.length : Int) ≤ y.n) : runs p l (y :: ys) i = ([], i, 7) := by unfold runs; rw [if_pos h]
theorem runs_no {p : List Int} {l : List Sy} {y : Yn} {ys : List Yn} {i : Int} (h : ¬ (y.n < 1 ∨ (l.length : Int) ≤ y.n)) (he : ¬ (cor1 p l y).e = 0) : runs p l (y :: ys) i = ([], i, (cor1 p l y).e) := by
  show (if y.n < 1 ∨ (l.length : Int) ≤ y.n then _ else _) = _
  rw [if_neg h, if_neg he]
theorem runs_go {p : List Int} {l : List Sy} {y : Yn} {ys : List Yn} {i : Int} (h : ¬ (y.n < 1 ∨ (l.length : Int) ≤ y.n)) (he : (cor1 p l y).e = 0) : runs p l (y :: ys) i = runs p (l.set y.n.toNat (sy (cor1 p l y))) ys (i + 1) := by
  show (if y.n < 1 ∨ (l.length : Int) ≤ y.n then _ else _) = _
  rw [if_neg h, if_pos he]

/-- what a good end says -/
theorem runs_split {p : List Int} : ∀ (xs ys : List Yn) (l : List Sy) (i j : Int), okL l → (runs p l (xs ++ ys) i).2.2 = 0 →
    ∃ m, runs p l xs j = (m, -1, 0) ∧ okL m ∧ m.length = l.length ∧ runs p l (xs ++ ys) i = runs p m ys (i + xs.length)
  | [], ys, l, i, j, hl, h => ⟨l, rfl, hl, rfl, by simp⟩
  | x :: xs, ys, l, i, j, hl, h => by
    by_cases hb : x.n < 1 ∨ (l.length : Int) ≤ x.n
    · rw [List.cons_append, runs_bad hb] at h; exact absurd (show (7 : Int) = 0 from h) (by decide)
    · by_cases he : (cor1 p l x).e = 0
      · rw [List.cons_append, runs_go hb he] at h
        obtain ⟨m, h1, h2, h3, h4⟩ := runs_split xs ys (l.set x.n.toNat (sy (cor1 p l x))) (i + 1) (j + 1) (okL_set hl (stp_okS he)) h
        refine ⟨m, by rw [runs_go hb he]; exact h1, h2, by rw [h3]; simp, ?_⟩
        rw [List.cons_append, runs_go hb he, h4]
        congr 1
        simp
        omega
      · rw [List.cons_append, runs_no hb he] at h; exact absurd h he
theorem runs_end {p : List Int} : ∀ (xs : List Yn) (l : List Sy) (i : Int), okL l → (runs p l xs i).2.2 = 0 → (runs p l xs i).2.1 = -1 ∧ (runs p l xs i).1.length = l.length ∧ okL (runs p l xs i).1 ∧
    ∀ k : Nat, (∀ x ∈ xs, x.n ≠ (k : Int)) → (runs p l xs i).1[k]? = l[k]?
  | [], l, i, hl, h => ⟨rfl, rfl, hl, fun k _ => rfl⟩
  | x :: xs, l, i, hl, h => by
    by_cases hb : x.n < 1 ∨ (l.length : Int) ≤ x.n
    · rw [runs_bad hb] at h; exact absurd (show (7 : Int) = 0 from h) (by decide)
    · by_cases he : (cor1 p l x).e = 0
      · rw [runs_go hb he] at h ⊢
        obtain ⟨h1, h2, h3, h4⟩ := runs_end xs (l.set x.n.toNat (sy (cor1 p l x))) (i + 1) (okL_set hl (stp_okS he)) h
        refine ⟨h1, by rw [h2]; simp, h3, fun k hk => ?_⟩
        rw [h4 k (fun y hy => hk y (List.mem_cons_of_mem _ hy))]
        have := hk x (List.mem_cons_self ..)
        rw [List.getElem?_set_ne (by omega)]
      · rw [runs_no hb he] at h; exact absurd h he
/-- a bad end -/
theorem runs_err {p : List Int} : ∀ (xs : List Yn) (l : List Sy) (i : Int), (runs p l xs i).2.2 ≠ 0 → (runs p l xs i).1 = [] ∧ i ≤ (runs p l xs i).2.1 ∧ (runs p l xs i).2.1 < i + xs.length
  | [], l, i, h => absurd rfl h
  | x :: xs, l, i, h => by
    by_cases hb : x.n < 1 ∨ (l.length : Int) ≤ x.n
    · rw [runs_bad hb]; exact ⟨rfl, by simp, by simp; omega⟩
    · by_cases he : (cor1 p l x).e = 0
      · rw [runs_go hb he] at h ⊢
        obtain ⟨h1, h2, h3⟩ := runs_err xs _ (i + 1) h
        exact ⟨h1, by omega, by simp; omega⟩
      · rw [runs_no hb he]; exact ⟨rfl, by simp, by simp; omega⟩
end Ru
end Go.Proofs.Ytjiaemmhjkhdhaa

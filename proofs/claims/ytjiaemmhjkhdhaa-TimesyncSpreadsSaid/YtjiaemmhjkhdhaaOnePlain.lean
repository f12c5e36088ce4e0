/- The plain law of TimesyncOne: a run may be cut in two. No program. -/
import Derived.Test.YtjiaemmhjkhdhaaRunPlain
namespace Go.Proofs.Ytjiaemmhjkhdhaa.Ru

theorem one_err {p : List Int} {S : List Sy} {Y : List Yn} (h : (run p S Y).2.2 ≠ 0) : (run p S Y).1 = [] ∧ -1 ≤ (run p S Y).2.1 ∧ (run p S Y).2.1 < Y.length := by
  unfold run at h ⊢
  split at h
  · rename_i ho
    rw [if_pos ho]
    obtain ⟨q1, q2, q3⟩ := runs_err Y S 0 h
    exact ⟨q1, by omega, by omega⟩
  · rename_i ho
    rw [if_neg ho]
    refine ⟨rfl, by simp, by simp; omega⟩

theorem runs_at {p : List Int} {ys : List Yn} {l : List Sy} {i : Int} (j : Int) (hl : okL l) (h : (runs p l ys i).2.2 = 0) : runs p l ys j = ((runs p l ys i).1, -1, 0) := by
  obtain ⟨m, h1, _, _, h2⟩ := runs_split ys [] l i j hl (by rwa [List.append_nil])
  rw [List.append_nil] at h2
  rw [h1, h2]; rfl

theorem one_ok {p : List Int} {S : List Sy} {Y : List Yn} (h : (run p S Y).2.2 = 0) : okR p S Y ∧ (run p S Y).2.1 = -1 ∧ (run p S Y).1.length = S.length ∧ (∀ k : Nat, (∀ x ∈ Y, x.n ≠ (k : Int)) → (run p S Y).1[k]? = S[k]?) ∧
    ∀ k, k ≤ Y.length → ∃ m, run p S (Y.take k) = (m, -1, 0) ∧ m.length = S.length ∧ run p m (Y.drop k) = ((run p S Y).1, -1, 0) := by
  by_cases ho : okR p S Y
  · have e : run p S Y = runs p S Y 0 := if_pos ho
    rw [e] at h
    obtain ⟨h1, h2, _, h3⟩ := runs_end Y S 0 ho.2.2.2 h
    refine ⟨ho, by rw [e]; exact h1, by rw [e]; exact h2, fun k hk => by rw [e]; exact h3 k hk, fun k hk => ?_⟩
    have hs : Y.take k ++ Y.drop k = Y := List.take_append_drop k Y
    have h' : (runs p S (Y.take k ++ Y.drop k) 0).2.2 = 0 := by rw [hs]; exact h
    obtain ⟨m, m1, m2, m3, m4⟩ := runs_split (Y.take k) (Y.drop k) S 0 0 ho.2.2.2 h'
    rw [hs] at m4
    refine ⟨m, ?_, m3, ?_⟩
    · have : okR p S (Y.take k) := ⟨ho.1, ho.2.1, by have := ho.2.2.1; simp; omega, ho.2.2.2⟩
      rw [show run p S (Y.take k) = runs p S (Y.take k) 0 from if_pos this, m1]
    · have : okR p m (Y.drop k) := ⟨ho.1, by rw [m3]; exact ho.2.1, by have := ho.2.2.1; simp; omega, m2⟩
      rw [show run p m (Y.drop k) = runs p m (Y.drop k) 0 from if_pos this, runs_at 0 m2 (i := 0 + ((Y.take k).length : Int)) (by rw [← m4]; exact h), ← m4, e]
  · unfold run at h
    rw [if_neg ho] at h
    exact absurd (show (1 : Int) = 0 from h) (by decide)
end Go.Proofs.Ytjiaemmhjkhdhaa.Ru
